/- Part 3 of what the statements need: lemmas and walks. -/
import Derived.Laws.StructEq
import Derived.Test.YtcihalbakenleaaGreatEr2
set_option linter.unusedVariables false
set_option linter.unusedSimpArgs false
set_option linter.unusedSectionVars false
set_option maxRecDepth 20000
set_option maxHeartbeats 8000000
namespace Go.Proofs.YtcihalbakenleaaGreat
open Go.RowKit
section
variable {P:Program} {n:Nat} {f:Fr} {h:Xh}
theorem RV.cells {a t m i:Nat} {l:List S} {ds:List D} (ha:Nat.blt a n=true) (hf:f a= .ptr i 0 0) (hi:h i=some (.box l)) (hs:aggB P t m=true) (hm:m≤l.length) (hd:Kr (l.take m)=some ds):RV P n f h (.cell a t) (.agg ds):=fun E H β act w hsim hfv=>by
 have g:=hfv.slot a (Hk ha)
 rw [hf] at g
 obtain ⟨L,h1,h2⟩:=Hi g
 rw [Nat.zero_mul,Nat.zero_add] at h2
 have hp : By P ⟨none, .load t (.tmp 0), t, "", #[], none⟩ (fun _ => .ptr i 0 0) h (.agg ((l.drop 0).take m)) := Ad rfl rfl hs hi (by omega)
 obtain ⟨u,r1,r2⟩:=hp E H β (fun _=>act.tmps.getD a undef) w hsim (fun x _=>by rw [h2];have:=VS.ptr (H:=H) 0 0 h1;rw [Nat.zero_mul,Nat.zero_add] at this;exact this)
 rw [Jg rfl h2] at r1
 refine ⟨u, ?_, ?_⟩
 ·unfold V4
  simp only [Sem.run_bind,h2,asAddr,Sem.run_pure,Result.andThen_ok]
  generalize (loadVar t ⟨L.b,0,none⟩).run P w=r at r1
  cases r with
  |ok v w'=>simp only [Result.andThen_ok,Result.ok.injEq,Next.value.injEq] at r1;obtain ⟨rfl,rfl⟩:=r1;rfl
  |halt x w'=>simp [Result.andThen] at r1
 ·have:=r2.norm
  rw [List.drop_zero] at this
  unfold norm at this
  simp only [hd] at this
  exact E1 this
end
theorem Ak {α:Type} {n:Nat} {I:α→Prop} {F:α→Fr} {G:α→Xh} {μ:α→Nat} {x:α} {K:Ei} {f:Fr} {h:Xh} (x':α) (h1:I x') (h2:μ x'<μ x) (h3:FSub n f (F x')) (h4:HSub h (G x')):
  Pc (fun f' h'=>∃x',I x'∧μ x'<μ x∧FSub n f' (F x')∧HSub h' (G x')) K .normal f h:=⟨x',h1,h2,h3,h4⟩
section
variable {P:Program} {n:Nat} {ops:Array Oper} {rest:List Oper} {K:Ei} {f:Fr} {h:Xh} {o:Oper} {F:FuncId} {ds:List D} {args:Array Operand} {tys:Array TypeId} {r:D}
theorem XL.call1 (ho:o.op= .call {callee:= .value (.func F),args:=args,argTypes:=tys}) (hw:Cv ops f n o.guard=some true) (hx:XC P F ds (fun d=>d=r))
  (ha:args.toList.map (ev f)=ds.map S.d) (hr:XL P n ops rest K (Ca f o.dst (.d r)) h):XL P n ops (o::rest) K f h:=
 XL.call ho hw hx ha (by rintro _ rfl;exact hr)
theorem XL.callv1 {x:Operand} {ps cs:List D} (ho:o.op= .call {callee:= .value x,args:=args,argTypes:=tys}) (hw:Cv ops f n o.guard=some true) (hxe:ev f x= .d (.fn F ps cs))
  (hx:XC P F (ps++ds++cs) (fun d=>d=r)) (ha:args.toList.map (ev f)=ds.map S.d) (hr:XL P n ops rest K (Ca f o.dst (.d r)) h):XL P n ops (o::rest) K f h:=
 XL.callv ho hw hxe hx ha (by rintro _ rfl;exact hr)
end
section
variable {P:Program} {o:Oper} {e:Operand→S} {h:Xh}
theorem B6 {t:TypeId} {x:Operand} {p:Prop} [Decidable p] (ho:o.op= .unOp .not t x) (hx:e x= .d (.v (.bool (decide p)))):By P o e h (.d (.v (.bool (decide (¬p))))):=by
 have:=Dd (P:=P) (h:=h) ho hx
 rwa [←decide_not] at this
def Of:List D→Option (List Value)
 | []=>some []
 | .v x::l=>match Of l with|some vs=>some (x::vs)|none=>none
 |_::_=>none
theorem T5:∀{l:List D} {vs:List Value},Of l=some vs→l=vs.map D.v
 | [],vs,h=>by cases h;rfl
 | .v x::l,vs,h=>by
  unfold Of at h
  cases hd:Of l with
  |none=>rw [hd] at h;cases h
  |some vs'=>rw [hd] at h;cases h;rw [List.map_cons, ←T5 hd]
theorem Yg {H:Hp} {u:Value} {l:List D} {vs:List Value} (hv:VD H u (.agg l)) (hp:Of l=some vs):u= .agg vs.toArray:=by
 obtain ⟨cs,rfl,h1,h2⟩:=Vp hv
 have:=T5 hp
 subst this
 congr 1
 apply Array.ext'
 refine List.ext_getElem? fun i=> ?_
 by_cases hi:i<cs.size
 ·have hc:cs[i]? =some cs[i]:=Array.getElem?_eq_getElem hi
  rw [List.length_map] at h1
  have hl:vs[i]? =some vs[i]:=List.getElem?_eq_getElem (by omega)
  have:=Ul (h2 i _ (.v vs[i]) hc (by rw [List.getElem?_map,hl];rfl))
  rw [Array.getElem?_toList,hc,this]
  simp [hl]
 ·rw [List.length_map] at h1
  rw [List.getElem?_eq_none (by simpa using hi),List.getElem?_eq_none (by simp;omega)]
theorem Gn {op:BinOp} {t t':TypeId} {x y:Operand} {la lb:List D} {va vb:List Value} {r:Value} (ho:o.op= .binOp op t x y t') (hx:e x= .d (.agg la)) (hy:e y= .d (.agg lb)) (ha:Of la=some va) (hb:Of lb=some vb)
  (hg:P.eqGuardType P.depth t=false) (hr:∀w,(binOp op t (.agg va.toArray) (.agg vb.toArray)).run P w= .ok r w):By P o e h (.d (.v r)):=fun E H β ρ w _ hop=>by
 have g1:=hop x (by rw [ho];simp [Op.operands])
 have g2:=hop y (by rw [ho];simp [Op.operands])
 rw [hx] at g1
 rw [hy] at g2
 refine ⟨r, ?_, .d (.v _)⟩
 unfold execOp
 simp only [ho,Yg (E1 g1) ha,Yg (E1 g2) hb,Sem.run_bind,run_eqGuard_agg w op t x y va.toArray vb.toArray hg,Result.andThen_ok,hr,Sem.run_pure]
theorem D2 {t m k i off:Nat} {x y:Operand} {el:TypeId} {ik:IntKind} (ho:o.op= .indexAddr t x y) (hx:e x= .ptr i 0 off) (hy:e y= .d (.v (.int ik k))) (hu:P.underlying t=some (.array m el)) (hz:sizeB P el 1=true) (hk:k<m):By P o e h (.ptr i 0 (off+k)):=fun E H β ρ w _ hop=>by
 have g:=hop x (by rw [ho];simp [Op.operands])
 have g2:=hop y (by rw [ho];simp [Op.operands])
 rw [hx] at g
 rw [hy] at g2
 obtain ⟨L,h1,h2⟩:=Hi g
 have hlt:(0:Int)≤(k:Int)∧(k:Int)<(m:Int):=⟨by omega,by omega⟩
 refine ⟨.pointer (some ⟨L.b,0*L.sz+(off+k),none⟩), ?_, .ptr 0 (off+k) h1⟩
 unfold execOp
 simp only [ho,h2,Es g2,Instr.indexAt,asIntOf,Instr.sureAddr,Sem.run_bind,run_underlying hu,Result.andThen_ok,Sem.run_pure,hlt,and_self,if_true,sizeB.run hz,Int.toNat_natCast,Nat.mul_one]
 rw [Go.WideShapes.add_plain,Nat.add_assoc]
end
end Go.Proofs.YtcihalbakenleaaGreat
namespace Go.Proofs.YtcihalbakenleaaGreat
open Go.RowKit
def iv (k:Int):List D:= [.v (.int .i64 k)]
def B8 (l:List Int):List (List D):=l.map iv
structure Pit where
 step:Int
 alter:Int
 oct:Int
 deriving DecidableEq
def Pit.c (p:Pit):List D:= [.v (.int .i64 p.step), .v (.int .i64 p.alter), .v (.int .i64 p.oct)]
structure Hd where
 p:Pit
 tied:Bool
 sh:Int
 deriving DecidableEq
def Hd.c (h:Hd):List D:= [.v (.int .i64 h.p.step), .v (.int .i64 h.p.alter), .v (.int .i64 h.p.oct), .v (.bool h.tied), .v (.int .i64 h.sh)]
structure Gr where
 p:Pit
 log:Int
 slash:Bool
 deriving DecidableEq
def Gr.c (g:Gr):List D:= [.v (.int .i64 g.p.step), .v (.int .i64 g.p.alter), .v (.int .i64 g.p.oct), .v (.int .i64 g.log), .v (.bool g.slash)]
structure Sy where
 text:List UInt8
 link:Int
 deriving DecidableEq
def Sy.c (s:Sy):List D:= [.v (.string ⟨s.text.toArray⟩), .v (.int .i64 s.link)]
structure Val where
 log:Int
 dots:Int
 deriving DecidableEq
def Val.c (v:Val):List D:= [.v (.int .i64 v.log), .v (.int .i64 v.dots)]
structure Ev where
 site:Int
 num:Int
 kind:Int
 v:Val
 heads:List Hd
 graces:List Gr
 art:Int
 orn:Int
 dyn:Int
 lyr:List Sy
 stem:Int
 beam:Int
def hdsD (l:List Hd):D:= .sl 5 (l.map Hd.c)
def grsD (l:List Gr):D:= .sl 5 (l.map Gr.c)
def sysD (l:List Sy):D:= .sl 2 (l.map Sy.c)
def Ev.c (e : Ev) : List D := [.v (.int .i64 e.site), .v (.int .i64 e.num), .v (.int .i64 e.kind), .v (.int .i64 e.v.log), .v (.int .i64 e.v.dots), .sl 5 (e.heads.map Hd.c), .sl 5 (e.graces.map Gr.c),
 .v (.int .i64 e.art), .v (.int .i64 e.orn), .v (.int .i64 e.dyn), .sl 2 (e.lyr.map Sy.c), .v (.int .i64 e.stem), .v (.int .i64 e.beam)]
structure Tp where
 first:Int
 count:Int
 actual:Int
 normal:Int
 deriving DecidableEq
def Tp.c (t:Tp):List D:= [.v (.int .i64 t.first), .v (.int .i64 t.count), .v (.int .i64 t.actual), .v (.int .i64 t.normal)]
structure Vo where
 evs:List Ev
 tups:List Tp
def Vo.c (v:Vo):List D:= [.sl 13 (v.evs.map Ev.c), .sl 4 (v.tups.map Tp.c)]
structure Me where
 count:Int
 unit:Int
 g0:Int
 g1:Int
 g2:Int
 g3:Int
 g4:Int
 g5:Int
 deriving DecidableEq
def Me.gs (m:Me):List Int:= [m.g0,m.g1,m.g2,m.g3,m.g4,m.g5]
def Me.c (m:Me):List D:= [.v (.int .i64 m.count), .v (.int .i64 m.unit), .v (.int .i64 m.g0), .v (.int .i64 m.g1), .v (.int .i64 m.g2), .v (.int .i64 m.g3), .v (.int .i64 m.g4), .v (.int .i64 m.g5)]
structure Pl where
 m:Me
 off:Int
 len:Int
def Pl.c (p:Pl):List D:= [.v (.int .i64 p.m.count), .v (.int .i64 p.m.unit), .v (.int .i64 p.m.g0), .v (.int .i64 p.m.g1), .v (.int .i64 p.m.g2), .v (.int .i64 p.m.g3), .v (.int .i64 p.m.g4), .v (.int .i64 p.m.g5), .v (.int .i64 p.off), .v (.int .i64 p.len)]
theorem C2 {α:Type} {l:List α} {k:Nat} {x:α} (h:l[k]? =some x):l.drop k=x::l.drop (k+1):=by
 obtain ⟨hk,e⟩:=List.getElem?_eq_some_iff.1 h
 rw [←e];exact List.drop_eq_getElem_cons hk
theorem Mw (l:List UInt8):(ByteArray.mk l.toArray).toList=l:=by rw [ByteArray.toList_eq]
theorem Qp {l:List UInt8} {k:Nat} {b:UInt8} (h:l[k]? =some b):(ByteArray.mk l.toArray)[k]? =some b:=by
 obtain ⟨hk,e⟩:=List.getElem?_eq_some_iff.1 h
 have hk':k<(ByteArray.mk l.toArray).size:=by simpa [ByteArray.size] using hk
 rw [getElem?_pos (ByteArray.mk l.toArray) k hk', ←e]
 rfl
theorem Cf {α:Type} {f:α→List D} {l:List α} {k:Nat} {x:α} (h:l[k]? =some x):(l.map f)[k]? =some (f x):=by rw [List.getElem?_map,h];rfl
theorem Au {α:Type} {l:List α} {k:Nat} (h:k<l.length):∃x,l[k]? =some x:=⟨_,List.getElem?_eq_getElem h⟩
abbrev dI (n:Int):D:= .v (.int .i64 n)
abbrev dB (b:Bool):D:= .v (.bool b)
def I64 (n:Int):Prop:= -9223372036854775808≤n∧n≤9223372036854775807
end Go.Proofs.YtcihalbakenleaaGreat
namespace Go.Proofs.YtcihalbakenleaaGreat
open Go.RowKit
theorem Cs:sizeB Tryz.prog 3 1=true:=by kernel_rfl
theorem Eu:zeroB Tryz.prog 3 (.int .i64 0):=by unfold zeroB;kernel_rfl
theorem Ai:scB Tryz.prog 3=true:=by kernel_rfl
theorem Pt:sizeB Tryz.prog 4 1=true:=by kernel_rfl
theorem Kv:scB Tryz.prog 4=true:=by kernel_rfl
theorem L7:scB Tryz.prog 9=true:=by kernel_rfl
theorem Vy:sizeB Tryz.prog 22 1=true:=by kernel_rfl
theorem Arx:zeroB Tryz.prog 22 (.slice none 0 0):=by unfold zeroB;kernel_rfl
theorem Bk:scB Tryz.prog 22=true:=by kernel_rfl
theorem B5:elB Tryz.prog 22 13=true:=by kernel_rfl
theorem D3:ElemTy Tryz.prog 22 60 13 152:=ElemTy.of (z:=(.agg #[.int .i64 0, .int .i64 0, .int .i64 0, .int .i64 0, .int .i64 0, .slice none 0 0, .slice none 0 0, .int .i64 0, .int .i64 0, .int .i64 0, .slice none 0 0, .int .i64 0, .int .i64 0])) Tryz.underlying22 (by kernel_rfl) rfl (by omega)
theorem G9:sizeB Tryz.prog 23 1=true:=by kernel_rfl
theorem Arw:zeroB Tryz.prog 23 (.slice none 0 0):=by unfold zeroB;kernel_rfl
theorem B1:scB Tryz.prog 23=true:=by kernel_rfl
theorem D9:elB Tryz.prog 23 4=true:=by kernel_rfl
theorem G4:ElemTy Tryz.prog 23 102 4 32:=ElemTy.of (z:=(.agg #[.int .i64 0, .int .i64 0, .int .i64 0, .int .i64 0])) Tryz.underlying23 (by kernel_rfl) rfl (by omega)
theorem Bc:sizeB Tryz.prog 25 2=true:=by kernel_rfl
theorem A1:zeroB Tryz.prog 25 (.agg #[.slice none 0 0, .slice none 0 0]):=by unfold zeroB;kernel_rfl
theorem An:aggB Tryz.prog 25 2=true:=by kernel_rfl
theorem Br:L5 Tryz.prog 25 [(0,1),(1,1)]=true:=by kernel_rfl
theorem Ax:Dp Tryz.prog 25 0 0=true:=by kernel_rfl
theorem Bn:Dp Tryz.prog 25 1 1=true:=by kernel_rfl
theorem Ah7:zeroB Tryz.prog 26 (.agg #[.int .i64 0, .int .i64 0, .int .i64 0, .int .i64 0, .int .i64 0, .int .i64 0]):=by unfold zeroB;kernel_rfl
theorem Afn:aggB Tryz.prog 26 6=true:=by kernel_rfl
theorem Arv:zeroB Tryz.prog 28 (.agg #[.int .i64 0, .int .i64 0, .int .i64 0, .int .i64 0, .int .i64 0, .int .i64 0, .int .i64 0, .int .i64 0]):=by unfold zeroB;kernel_rfl
theorem Bo:aggB Tryz.prog 28 8=true:=by kernel_rfl
theorem Aum:L5 Tryz.prog 28 [(0,1),(1,1),(2,6)]=true:=by kernel_rfl
theorem Eb:Dp Tryz.prog 28 0 0=true:=by kernel_rfl
theorem Ij:Dp Tryz.prog 28 1 1=true:=by kernel_rfl
theorem Gq:Dp Tryz.prog 28 2 2=true:=by kernel_rfl
theorem Awh:sizeB Tryz.prog 30 10=true:=by kernel_rfl
theorem Ah6:zeroB Tryz.prog 30 (.agg #[.int .i64 0, .int .i64 0, .int .i64 0, .int .i64 0, .int .i64 0, .int .i64 0, .int .i64 0, .int .i64 0, .int .i64 0, .int .i64 0]):=by unfold zeroB;kernel_rfl
theorem G7:aggB Tryz.prog 30 10=true:=by kernel_rfl
theorem Aul:L5 Tryz.prog 30 [(0,8),(8,1),(9,1)]=true:=by kernel_rfl
theorem Mn:Dp Tryz.prog 30 0 0=true:=by kernel_rfl
theorem Gc:Dp Tryz.prog 30 1 8=true:=by kernel_rfl
theorem Fn:Dp Tryz.prog 30 2 9=true:=by kernel_rfl
theorem Ov:sizeB Tryz.prog 33 1=true:=by kernel_rfl
theorem La:zeroB Tryz.prog 33 (.int .i64 0):=by unfold zeroB;kernel_rfl
theorem Awi:scB Tryz.prog 33=true:=by kernel_rfl
theorem Qk:aggB Tryz.prog 39 10=true:=by kernel_rfl
theorem K8:Dp Tryz.prog 39 0 0=true:=by kernel_rfl
theorem D5:Dp Tryz.prog 39 1 8=true:=by kernel_rfl
theorem Jl:Dp Tryz.prog 39 2 9=true:=by kernel_rfl
theorem H4:sizeB Tryz.prog 48 1=true:=by kernel_rfl
theorem Ct:scB Tryz.prog 48=true:=by kernel_rfl
theorem Fl:elB Tryz.prog 48 5=true:=by kernel_rfl
theorem Ss:ElemTy Tryz.prog 48 91 5 40:=ElemTy.of (z:=(.agg #[.int .i64 0, .int .i64 0, .int .i64 0, .bool false, .int .i64 0])) Tryz.underlying48 (by kernel_rfl) rfl (by omega)
theorem Awg:sizeB Tryz.prog 54 2=true:=by kernel_rfl
theorem Aru:zeroB Tryz.prog 54 (.agg #[.int .i64 0, .int .i64 0]):=by unfold zeroB;kernel_rfl
theorem Kw:aggB Tryz.prog 54 2=true:=by kernel_rfl
theorem Auk:L5 Tryz.prog 54 [(0,1),(1,1)]=true:=by kernel_rfl
theorem Acn:Dp Tryz.prog 54 0 0=true:=by kernel_rfl
theorem Acm:Dp Tryz.prog 54 1 1=true:=by kernel_rfl
theorem Dx:sizeB Tryz.prog 56 2=true:=by kernel_rfl
theorem Do:zeroB Tryz.prog 56 (.agg #[.int .i64 0, .int .i64 0]):=by unfold zeroB;kernel_rfl
theorem Co:aggB Tryz.prog 56 2=true:=by kernel_rfl
theorem J5:L5 Tryz.prog 56 [(0,1),(1,1)]=true:=by kernel_rfl
theorem Mm:Dp Tryz.prog 56 0 0=true:=by kernel_rfl
theorem Ii:Dp Tryz.prog 56 1 1=true:=by kernel_rfl
theorem Arb:sizeB Tryz.prog 57 1=true:=by kernel_rfl
theorem J0:scB Tryz.prog 57=true:=by kernel_rfl
theorem Ro:elB Tryz.prog 57 5=true:=by kernel_rfl
theorem Avw:ElemTy Tryz.prog 57 138 5 40:=ElemTy.of (z:=(.agg #[.int .i64 0, .int .i64 0, .int .i64 0, .int .i64 0, .bool false])) Tryz.underlying57 (by kernel_rfl) rfl (by omega)
theorem Ara:sizeB Tryz.prog 58 1=true:=by kernel_rfl
theorem Jz:scB Tryz.prog 58=true:=by kernel_rfl
theorem Pm:elB Tryz.prog 58 2=true:=by kernel_rfl
theorem Avv:ElemTy Tryz.prog 58 140 2 24:=ElemTy.of (z:=(.agg #[.string ⟨#[]⟩, .int .i64 0])) Tryz.underlying58 (by kernel_rfl) rfl (by omega)
theorem B4:sizeB Tryz.prog 60 13=true:=by kernel_rfl
theorem Bw:zeroB Tryz.prog 60 (.agg #[.int .i64 0, .int .i64 0, .int .i64 0, .int .i64 0, .int .i64 0, .slice none 0 0, .slice none 0 0, .int .i64 0, .int .i64 0, .int .i64 0, .slice none 0 0, .int .i64 0, .int .i64 0]):=by unfold zeroB;kernel_rfl
theorem A3:aggB Tryz.prog 60 13=true:=by kernel_rfl
theorem Jp:L5 Tryz.prog 60 [(0,2),(2,1),(3,2),(5,1),(6,1),(7,1),(8,1),(9,1),(10,1),(11,1),(12,1)]=true:=by kernel_rfl
theorem Fm:Dp Tryz.prog 60 0 0=true:=by kernel_rfl
theorem B2:Dp Tryz.prog 60 1 2=true:=by kernel_rfl
theorem Cm:Dp Tryz.prog 60 2 3=true:=by kernel_rfl
theorem Bi:Dp Tryz.prog 60 3 5=true:=by kernel_rfl
theorem Fa:Dp Tryz.prog 60 4 6=true:=by kernel_rfl
theorem Dm:Dp Tryz.prog 60 5 7=true:=by kernel_rfl
theorem Hf:Dp Tryz.prog 60 6 8=true:=by kernel_rfl
theorem E9:Dp Tryz.prog 60 7 9=true:=by kernel_rfl
theorem E8:Dp Tryz.prog 60 8 10=true:=by kernel_rfl
theorem Et:Dp Tryz.prog 60 9 11=true:=by kernel_rfl
theorem Gh:Dp Tryz.prog 60 10 12=true:=by kernel_rfl
theorem C5:elB Tryz.prog 64 1=true:=by kernel_rfl
theorem H3:ElemTy Tryz.prog 64 3 1 8:=ElemTy.of (z:=(.int .i64 0)) Tryz.underlying64 (by kernel_rfl) rfl (by omega)
theorem Art:zeroB Tryz.prog 89 (.agg #[.int .i64 0, .int .i64 0, .int .i64 0]):=by unfold zeroB;kernel_rfl
theorem E0:aggB Tryz.prog 89 3=true:=by kernel_rfl
theorem Auj:L5 Tryz.prog 89 [(0,1),(1,1),(2,1)]=true:=by kernel_rfl
theorem Ml:Dp Tryz.prog 89 0 0=true:=by kernel_rfl
theorem Mk:Dp Tryz.prog 89 1 1=true:=by kernel_rfl
theorem Mj:Dp Tryz.prog 89 2 2=true:=by kernel_rfl
theorem Nf:sizeB Tryz.prog 91 5=true:=by kernel_rfl
theorem H9:zeroB Tryz.prog 91 (.agg #[.int .i64 0, .int .i64 0, .int .i64 0, .bool false, .int .i64 0]):=by unfold zeroB;kernel_rfl
theorem Kk:aggB Tryz.prog 91 5=true:=by kernel_rfl
theorem Aa0:L5 Tryz.prog 91 [(0,3),(3,1),(4,1)]=true:=by kernel_rfl
theorem Gp:Dp Tryz.prog 91 0 0=true:=by kernel_rfl
theorem Dv:Dp Tryz.prog 91 1 3=true:=by kernel_rfl
theorem Rm:Dp Tryz.prog 91 2 4=true:=by kernel_rfl
theorem Iq:elB Tryz.prog 98 4=true:=by kernel_rfl
theorem Xa:ElemTy Tryz.prog 98 135 4 32:=ElemTy.of (z:=(.agg #[.int .i64 0, .int .i64 0, .int .i64 0, .int .i64 0])) Tryz.underlying98 (by kernel_rfl) rfl (by omega)
theorem Ej:sizeB Tryz.prog 102 4=true:=by kernel_rfl
theorem Db:zeroB Tryz.prog 102 (.agg #[.int .i64 0, .int .i64 0, .int .i64 0, .int .i64 0]):=by unfold zeroB;kernel_rfl
theorem Cb:aggB Tryz.prog 102 4=true:=by kernel_rfl
theorem Ask:L5 Tryz.prog 102 [(0,1),(1,1),(2,1),(3,1)]=true:=by kernel_rfl
theorem Bv:Dp Tryz.prog 102 0 0=true:=by kernel_rfl
theorem Dn:Dp Tryz.prog 102 1 1=true:=by kernel_rfl
theorem M3:Dp Tryz.prog 102 2 2=true:=by kernel_rfl
theorem Pj:Dp Tryz.prog 102 3 3=true:=by kernel_rfl
theorem Lx:elB Tryz.prog 106 2=true:=by kernel_rfl
theorem Jv:ElemTy Tryz.prog 106 56 2 16:=ElemTy.of (z:=(.agg #[.int .i64 0, .int .i64 0])) Tryz.underlying106 (by kernel_rfl) rfl (by omega)
theorem P8:sizeB Tryz.prog 135 4=true:=by kernel_rfl
theorem K3:zeroB Tryz.prog 135 (.agg #[.int .i64 0, .int .i64 0, .int .i64 0, .int .i64 0]):=by unfold zeroB;kernel_rfl
theorem Fd:aggB Tryz.prog 135 4=true:=by kernel_rfl
theorem Asj:L5 Tryz.prog 135 [(0,1),(1,1),(2,1),(3,1)]=true:=by kernel_rfl
theorem Er:Dp Tryz.prog 135 0 0=true:=by kernel_rfl
theorem G3:Dp Tryz.prog 135 1 1=true:=by kernel_rfl
theorem Li:Dp Tryz.prog 135 2 2=true:=by kernel_rfl
theorem M2:Dp Tryz.prog 135 3 3=true:=by kernel_rfl
theorem Amb:sizeB Tryz.prog 138 5=true:=by kernel_rfl
theorem Aao:zeroB Tryz.prog 138 (.agg #[.int .i64 0, .int .i64 0, .int .i64 0, .int .i64 0, .bool false]):=by unfold zeroB;kernel_rfl
theorem Ql:aggB Tryz.prog 138 5=true:=by kernel_rfl
theorem Zp:Dp Tryz.prog 138 0 0=true:=by kernel_rfl
theorem Sr:Dp Tryz.prog 138 1 3=true:=by kernel_rfl
theorem Aaz:sizeB Tryz.prog 140 2=true:=by kernel_rfl
theorem Qm:zeroB Tryz.prog 140 (.agg #[.string ⟨#[]⟩, .int .i64 0]):=by unfold zeroB;kernel_rfl
theorem Jy:aggB Tryz.prog 140 2=true:=by kernel_rfl
theorem Asi:L5 Tryz.prog 140 [(0,1),(1,1)]=true:=by kernel_rfl
theorem G2:Dp Tryz.prog 140 0 0=true:=by kernel_rfl
theorem Lh:Dp Tryz.prog 140 1 1=true:=by kernel_rfl
theorem Ama:sizeB Tryz.prog 167 1=true:=by kernel_rfl
theorem Aan:zeroB Tryz.prog 167 (.pointer none):=by unfold zeroB;kernel_rfl
theorem Iu:scB Tryz.prog 167=true:=by kernel_rfl
theorem Aoe:elB Tryz.prog 177 1=true:=by kernel_rfl
theorem Avx:elB Tryz.prog 180 1=true:=by kernel_rfl
theorem Aug:sizeB Tryz.prog 210 7=true:=by kernel_rfl
theorem Aam:zeroB Tryz.prog 210 (.agg #[.int .i64 0, .int .i64 0, .int .i64 0, .int .i64 0, .int .i64 0, .int .i64 0, .int .i64 0]):=by unfold zeroB;kernel_rfl
theorem At6:aggB Tryz.prog 210 7=true:=by kernel_rfl
theorem Ah5:Callable Tryz.prog 12:=⟨_,Tryz.func12,rfl,by decide⟩
theorem Ah4:Callable Tryz.prog 13:=⟨_,Tryz.func13,rfl,by decide⟩
theorem Ah3:Callable Tryz.prog 14:=⟨_,Tryz.func14,rfl,by decide⟩
theorem Ah2:Callable Tryz.prog 15:=⟨_,Tryz.func15,rfl,by decide⟩
theorem Ah1:Callable Tryz.prog 16:=⟨_,Tryz.func16,rfl,by decide⟩
theorem Ah0:Callable Tryz.prog 17:=⟨_,Tryz.func17,rfl,by decide⟩
theorem Ahz:Callable Tryz.prog 18:=⟨_,Tryz.func18,rfl,by decide⟩
theorem Ahy:Callable Tryz.prog 19:=⟨_,Tryz.func19,rfl,by decide⟩
theorem Ahx:Callable Tryz.prog 20:=⟨_,Tryz.func20,rfl,by decide⟩
theorem Ahw:Callable Tryz.prog 22:=⟨_,Tryz.func22,rfl,by decide⟩
theorem Ahv:Callable Tryz.prog 23:=⟨_,Tryz.func23,rfl,by decide⟩
theorem Ahu:Callable Tryz.prog 24:=⟨_,Tryz.func24,rfl,by decide⟩
theorem Aht:Callable Tryz.prog 27:=⟨_,Tryz.func27,rfl,by decide⟩
theorem Ahs:Callable Tryz.prog 28:=⟨_,Tryz.func28,rfl,by decide⟩
theorem Ahr:Callable Tryz.prog 30:=⟨_,Tryz.func30,rfl,by decide⟩
theorem Uj:Callable Tryz.prog 32:=⟨_,Tryz.func32,rfl,by decide⟩
theorem Ahq:Callable Tryz.prog 33:=⟨_,Tryz.func33,rfl,by decide⟩
theorem Ahp:Callable Tryz.prog 35:=⟨_,Tryz.func35,rfl,by decide⟩
theorem Aho:Callable Tryz.prog 36:=⟨_,Tryz.func36,rfl,by decide⟩
theorem Ui:Callable Tryz.prog 37:=⟨_,Tryz.func37,rfl,by decide⟩
theorem Ahn:Callable Tryz.prog 38:=⟨_,Tryz.func38,rfl,by decide⟩
theorem Ahm:Callable Tryz.prog 39:=⟨_,Tryz.func39,rfl,by decide⟩
theorem Ahl:Callable Tryz.prog 41:=⟨_,Tryz.func41,rfl,by decide⟩
theorem Ahk:Callable Tryz.prog 42:=⟨_,Tryz.func42,rfl,by decide⟩
theorem Ahj:Callable Tryz.prog 44:=⟨_,Tryz.func44,rfl,by decide⟩
theorem Ahi:Callable Tryz.prog 45:=⟨_,Tryz.func45,rfl,by decide⟩
theorem Ahh:Callable Tryz.prog 46:=⟨_,Tryz.func46,rfl,by decide⟩
theorem Ahg:Callable Tryz.prog 47:=⟨_,Tryz.func47,rfl,by decide⟩
theorem Ahf:Callable Tryz.prog 48:=⟨_,Tryz.func48,rfl,by decide⟩
theorem Ahe:Callable Tryz.prog 49:=⟨_,Tryz.func49,rfl,by decide⟩
theorem Ahd:Callable Tryz.prog 50:=⟨_,Tryz.func50,rfl,by decide⟩
theorem Ahc:Callable Tryz.prog 51:=⟨_,Tryz.func51,rfl,by decide⟩
theorem Ahb:Callable Tryz.prog 52:=⟨_,Tryz.func52,rfl,by decide⟩
theorem Aha:Callable Tryz.prog 53:=⟨_,Tryz.func53,rfl,by decide⟩
theorem Ag9:Callable Tryz.prog 54:=⟨_,Tryz.func54,rfl,by decide⟩
theorem Ag8:Callable Tryz.prog 55:=⟨_,Tryz.func55,rfl,by decide⟩
theorem Ag7:Callable Tryz.prog 56:=⟨_,Tryz.func56,rfl,by decide⟩
theorem Uh:Callable Tryz.prog 57:=⟨_,Tryz.func57,rfl,by decide⟩
theorem Ag6:Callable Tryz.prog 58:=⟨_,Tryz.func58,rfl,by decide⟩
theorem Ag5:Callable Tryz.prog 59:=⟨_,Tryz.func59,rfl,by decide⟩
theorem Ag4:Callable Tryz.prog 60:=⟨_,Tryz.func60,rfl,by decide⟩
theorem Ag3:Callable Tryz.prog 61:=⟨_,Tryz.func61,rfl,by decide⟩
theorem Ag2:Callable Tryz.prog 62:=⟨_,Tryz.func62,rfl,by decide⟩
theorem Ug:Callable Tryz.prog 63:=⟨_,Tryz.func63,rfl,by decide⟩
theorem Ag1:Callable Tryz.prog 64:=⟨_,Tryz.func64,rfl,by decide⟩
theorem Ag0:Callable Tryz.prog 65:=⟨_,Tryz.func65,rfl,by decide⟩
theorem Agz:Callable Tryz.prog 68:=⟨_,Tryz.func68,rfl,by decide⟩
theorem Agy:Callable Tryz.prog 69:=⟨_,Tryz.func69,rfl,by decide⟩
theorem Agx:Callable Tryz.prog 70:=⟨_,Tryz.func70,rfl,by decide⟩
theorem Agw:Callable Tryz.prog 71:=⟨_,Tryz.func71,rfl,by decide⟩
theorem Agv:Callable Tryz.prog 72:=⟨_,Tryz.func72,rfl,by decide⟩
theorem Agu:Callable Tryz.prog 73:=⟨_,Tryz.func73,rfl,by decide⟩
theorem Agt:Callable Tryz.prog 74:=⟨_,Tryz.func74,rfl,by decide⟩
theorem Ags:Callable Tryz.prog 75:=⟨_,Tryz.func75,rfl,by decide⟩
theorem Agr:Callable Tryz.prog 76:=⟨_,Tryz.func76,rfl,by decide⟩
theorem Agq:Callable Tryz.prog 77:=⟨_,Tryz.func77,rfl,by decide⟩
theorem Agp:Callable Tryz.prog 78:=⟨_,Tryz.func78,rfl,by decide⟩
theorem Ago:Callable Tryz.prog 79:=⟨_,Tryz.func79,rfl,by decide⟩
theorem Agn:Callable Tryz.prog 80:=⟨_,Tryz.func80,rfl,by decide⟩
theorem Agm:Callable Tryz.prog 81:=⟨_,Tryz.func81,rfl,by decide⟩
theorem Agl:Callable Tryz.prog 82:=⟨_,Tryz.func82,rfl,by decide⟩
theorem Agk:Callable Tryz.prog 83:=⟨_,Tryz.func83,rfl,by decide⟩
theorem Agj:Callable Tryz.prog 84:=⟨_,Tryz.func84,rfl,by decide⟩
theorem Agi:Callable Tryz.prog 85:=⟨_,Tryz.func85,rfl,by decide⟩
theorem Agh:Callable Tryz.prog 86:=⟨_,Tryz.func86,rfl,by decide⟩
theorem Agg:Callable Tryz.prog 87:=⟨_,Tryz.func87,rfl,by decide⟩
theorem Agf:Callable Tryz.prog 88:=⟨_,Tryz.func88,rfl,by decide⟩
theorem Uf:Callable Tryz.prog 89:=⟨_,Tryz.func89,rfl,by decide⟩
theorem Age:Callable Tryz.prog 90:=⟨_,Tryz.func90,rfl,by decide⟩
theorem Agd:Callable Tryz.prog 91:=⟨_,Tryz.func91,rfl,by decide⟩
theorem Agc:Callable Tryz.prog 93:=⟨_,Tryz.func93,rfl,by decide⟩
theorem Agb:Callable Tryz.prog 94:=⟨_,Tryz.func94,rfl,by decide⟩
theorem Aga:Callable Tryz.prog 95:=⟨_,Tryz.func95,rfl,by decide⟩
theorem Af9:Callable Tryz.prog 96:=⟨_,Tryz.func96,rfl,by decide⟩
theorem Af8:Callable Tryz.prog 97:=⟨_,Tryz.func97,rfl,by decide⟩
theorem Af7:Callable Tryz.prog 98:=⟨_,Tryz.func98,rfl,by decide⟩
theorem Af6:Callable Tryz.prog 99:=⟨_,Tryz.func99,rfl,by decide⟩
theorem Afg:Callable Tryz.prog 100:=⟨_,Tryz.func100,rfl,by decide⟩
theorem Aff:Callable Tryz.prog 101:=⟨_,Tryz.func101,rfl,by decide⟩
theorem Afe:Callable Tryz.prog 102:=⟨_,Tryz.func102,rfl,by decide⟩
theorem Afd:Callable Tryz.prog 103:=⟨_,Tryz.func103,rfl,by decide⟩
theorem Afc:Callable Tryz.prog 104:=⟨_,Tryz.func104,rfl,by decide⟩
theorem Afb:Callable Tryz.prog 105:=⟨_,Tryz.func105,rfl,by decide⟩
theorem Afa:Callable Tryz.prog 106:=⟨_,Tryz.func106,rfl,by decide⟩
theorem Ae9:Callable Tryz.prog 107:=⟨_,Tryz.func107,rfl,by decide⟩
theorem Ae8:Callable Tryz.prog 108:=⟨_,Tryz.func108,rfl,by decide⟩
theorem Ae7:Callable Tryz.prog 109:=⟨_,Tryz.func109,rfl,by decide⟩
theorem Ae6:Callable Tryz.prog 112:=⟨_,Tryz.func112,rfl,by decide⟩
theorem Ae5:Callable Tryz.prog 113:=⟨_,Tryz.func113,rfl,by decide⟩
theorem Ae4:Callable Tryz.prog 114:=⟨_,Tryz.func114,rfl,by decide⟩
theorem Ae3:Callable Tryz.prog 115:=⟨_,Tryz.func115,rfl,by decide⟩
theorem Ae2:Callable Tryz.prog 116:=⟨_,Tryz.func116,rfl,by decide⟩
theorem Ae1:Callable Tryz.prog 117:=⟨_,Tryz.func117,rfl,by decide⟩
theorem Ae0:Callable Tryz.prog 118:=⟨_,Tryz.func118,rfl,by decide⟩
theorem Aez:Callable Tryz.prog 119:=⟨_,Tryz.func119,rfl,by decide⟩
theorem Aey:Callable Tryz.prog 120:=⟨_,Tryz.func120,rfl,by decide⟩
theorem Aex:Callable Tryz.prog 121:=⟨_,Tryz.func121,rfl,by decide⟩
theorem Aew:Callable Tryz.prog 122:=⟨_,Tryz.func122,rfl,by decide⟩
theorem Aev:Callable Tryz.prog 123:=⟨_,Tryz.func123,rfl,by decide⟩
theorem Aeu:Callable Tryz.prog 124:=⟨_,Tryz.func124,rfl,by decide⟩
theorem Aet:Callable Tryz.prog 125:=⟨_,Tryz.func125,rfl,by decide⟩
theorem Aes:Callable Tryz.prog 126:=⟨_,Tryz.func126,rfl,by decide⟩
theorem Aer:Callable Tryz.prog 127:=⟨_,Tryz.func127,rfl,by decide⟩
theorem Aeq:Callable Tryz.prog 128:=⟨_,Tryz.func128,rfl,by decide⟩
theorem Aep:Callable Tryz.prog 129:=⟨_,Tryz.func129,rfl,by decide⟩
theorem Sz:Callable Tryz.prog 130:=⟨_,Tryz.func130,rfl,by decide⟩
theorem Aeo:Callable Tryz.prog 131:=⟨_,Tryz.func131,rfl,by decide⟩
theorem Aen:Callable Tryz.prog 132:=⟨_,Tryz.func132,rfl,by decide⟩
theorem Aem:Callable Tryz.prog 133:=⟨_,Tryz.func133,rfl,by decide⟩
theorem Ael:Callable Tryz.prog 134:=⟨_,Tryz.func134,rfl,by decide⟩
theorem Aek:Callable Tryz.prog 135:=⟨_,Tryz.func135,rfl,by decide⟩
theorem Aej:Callable Tryz.prog 136:=⟨_,Tryz.func136,rfl,by decide⟩
theorem Aei:Callable Tryz.prog 137:=⟨_,Tryz.func137,rfl,by decide⟩
theorem Aeh:Callable Tryz.prog 138:=⟨_,Tryz.func138,rfl,by decide⟩
theorem Aeg:Callable Tryz.prog 139:=⟨_,Tryz.func139,rfl,by decide⟩
theorem Aef:Callable Tryz.prog 140:=⟨_,Tryz.func140,rfl,by decide⟩
theorem Aee:Callable Tryz.prog 141:=⟨_,Tryz.func141,rfl,by decide⟩
theorem Aed:Callable Tryz.prog 142:=⟨_,Tryz.func142,rfl,by decide⟩
theorem Aec:Callable Tryz.prog 143:=⟨_,Tryz.func143,rfl,by decide⟩
theorem Aeb:Callable Tryz.prog 144:=⟨_,Tryz.func144,rfl,by decide⟩
theorem Aea:Callable Tryz.prog 145:=⟨_,Tryz.func145,rfl,by decide⟩
theorem Ad9:Callable Tryz.prog 146:=⟨_,Tryz.func146,rfl,by decide⟩
theorem Ad8:Callable Tryz.prog 147:=⟨_,Tryz.func147,rfl,by decide⟩
theorem Ad7:Callable Tryz.prog 148:=⟨_,Tryz.func148,rfl,by decide⟩
theorem Ad6:Callable Tryz.prog 149:=⟨_,Tryz.func149,rfl,by decide⟩
theorem Ad5:Callable Tryz.prog 150:=⟨_,Tryz.func150,rfl,by decide⟩
theorem Ad4:Callable Tryz.prog 151:=⟨_,Tryz.func151,rfl,by decide⟩
theorem Ad3:Callable Tryz.prog 152:=⟨_,Tryz.func152,rfl,by decide⟩
theorem Ad2:Callable Tryz.prog 153:=⟨_,Tryz.func153,rfl,by decide⟩
theorem Ad1:Callable Tryz.prog 154:=⟨_,Tryz.func154,rfl,by decide⟩
theorem Ad0:Callable Tryz.prog 155:=⟨_,Tryz.func155,rfl,by decide⟩
theorem Adz:Callable Tryz.prog 156:=⟨_,Tryz.func156,rfl,by decide⟩
theorem Ady:Callable Tryz.prog 157:=⟨_,Tryz.func157,rfl,by decide⟩
theorem Adx:Callable Tryz.prog 158:=⟨_,Tryz.func158,rfl,by decide⟩
theorem Adw:Callable Tryz.prog 159:=⟨_,Tryz.func159,rfl,by decide⟩
theorem Adv:Callable Tryz.prog 160:=⟨_,Tryz.func160,rfl,by decide⟩
theorem Adu:Callable Tryz.prog 161:=⟨_,Tryz.func161,rfl,by decide⟩
theorem Adt:Callable Tryz.prog 162:=⟨_,Tryz.func162,rfl,by decide⟩
theorem Ads:Callable Tryz.prog 163:=⟨_,Tryz.func163,rfl,by decide⟩
theorem Adr:Callable Tryz.prog 164:=⟨_,Tryz.func164,rfl,by decide⟩
theorem Sx:Callable Tryz.prog 165:=⟨_,Tryz.func165,rfl,by decide⟩
theorem Adq:Callable Tryz.prog 166:=⟨_,Tryz.func166,rfl,by decide⟩
theorem Adp:Callable Tryz.prog 167:=⟨_,Tryz.func167,rfl,by decide⟩
theorem Ado:Callable Tryz.prog 168:=⟨_,Tryz.func168,rfl,by decide⟩
theorem Adn:Callable Tryz.prog 170:=⟨_,Tryz.func170,rfl,by decide⟩
theorem Adm:Callable Tryz.prog 171:=⟨_,Tryz.func171,rfl,by decide⟩
theorem Adl:Callable Tryz.prog 172:=⟨_,Tryz.func172,rfl,by decide⟩
theorem Adk:Callable Tryz.prog 173:=⟨_,Tryz.func173,rfl,by decide⟩
theorem Adj:Callable Tryz.prog 174:=⟨_,Tryz.func174,rfl,by decide⟩
theorem Adi:Callable Tryz.prog 175:=⟨_,Tryz.func175,rfl,by decide⟩
theorem Adh:Callable Tryz.prog 176:=⟨_,Tryz.func176,rfl,by decide⟩
theorem Adg:Callable Tryz.prog 177:=⟨_,Tryz.func177,rfl,by decide⟩
theorem Adf:Callable Tryz.prog 178:=⟨_,Tryz.func178,rfl,by decide⟩
theorem Ade:Callable Tryz.prog 179:=⟨_,Tryz.func179,rfl,by decide⟩
theorem Add:Callable Tryz.prog 180:=⟨_,Tryz.func180,rfl,by decide⟩
theorem Adc:Callable Tryz.prog 181:=⟨_,Tryz.func181,rfl,by decide⟩
theorem Adb:Callable Tryz.prog 183:=⟨_,Tryz.func183,rfl,by decide⟩
theorem Ada:Callable Tryz.prog 184:=⟨_,Tryz.func184,rfl,by decide⟩
theorem Ac9:Callable Tryz.prog 185:=⟨_,Tryz.func185,rfl,by decide⟩
theorem Ac8:Callable Tryz.prog 186:=⟨_,Tryz.func186,rfl,by decide⟩
theorem Ac7:Callable Tryz.prog 187:=⟨_,Tryz.func187,rfl,by decide⟩
theorem Ac6:Callable Tryz.prog 188:=⟨_,Tryz.func188,rfl,by decide⟩
theorem Ac5:Callable Tryz.prog 189:=⟨_,Tryz.func189,rfl,by decide⟩
theorem Ac4:Callable Tryz.prog 190:=⟨_,Tryz.func190,rfl,by decide⟩
theorem Ac3:Callable Tryz.prog 191:=⟨_,Tryz.func191,rfl,by decide⟩
theorem Ac2:Callable Tryz.prog 192:=⟨_,Tryz.func192,rfl,by decide⟩
end Go.Proofs.YtcihalbakenleaaGreat
namespace Go.Proofs.YtcihalbakenleaaGreat
open Go.RowKit
section
variable {P:Program} {n:Nat} {ops:Array Oper} {rest:List Oper} {K:Ei} {f:Fr} {h:Xh} {o:Oper} {e:Operand→S} {α:Type}
theorem XL.len {t el:TypeId} {x:Operand} {sz:Nat} {g:α→List D} {l:List α} (ho:o.op= .call {callee:= .builtin .len,args:= #[x],argTypes:= #[t]}) (hw:Cv ops f n o.guard=some true) (hx:ev f x= .d (.sl sz (l.map g))) (hu:P.underlying t=some (.slice el))
  (hr:l.length≤9223372036854775807→XL P n ops rest K (Ca f o.dst (.d (.v (.int .i64 (l.length:Nat))))) h):XL P n ops (o::rest) K f h:=by
 refine XL.stepR (f':=f) (h':=h) (R:=fun s=>s= .d (.v (.int .i64 (l.length:Nat)))∧l.length≤9223372036854775807) hw (fun E H β a w hs hf hop=> ?_) (by rintro s ⟨rfl,h⟩;exact hr h)
 have g1:=hop x (by rw [ho];simp [Op.operands,Call.operands])
 rw [hx] at g1
 obtain ⟨A,c,h1,h2,h3,_⟩:=S5 (E1 g1)
 have hrun:=Tk (P:=P) ho hu h1 w
 unfold Oper.wp
 rw [hrun]
 rw [List.length_map] at h2
 exact ⟨H,β,_,_,rfl,hs,hf, .d (.v _),by rw [List.length_map],by unfold maxLen at h3;omega⟩
theorem Q8 {t m sz:Nat} {el:TypeId} {parts:Array (Nat × Operand)} {z:Value} {r:List S} (ho:o.op= .build t parts) (hu:P.underlying t=some (.array m el)) (hs:sizeB P el sz=true) (hz:zeroB P t z) (hr:Pk h (fun i=>some (i*sz,sz)) e (z.cells.toList.map fun x=> .d (.v x)) parts.toList=some r):
  By P o e h (.agg r):=fun E H β ρ w hsim hop=>by
 have hc0 : CellsAt H β z.cells (z.cells.toList.map fun x => .d (.v x)) := ⟨by simp, fun j v s hj hs' => by
  rw [List.getElem?_map,Array.getElem?_toList,hj] at hs'
  cases hs'
  exact .d (.v _)⟩
 obtain ⟨ys,y1,y2⟩:=M4 hsim (ρ:=ρ) parts.toList _ r z.cells hc0 (fun x hx=>hop x (by rw [ho];simpa [Op.operands] using hx)) hr
 refine ⟨.agg ys, ?_, .agg ys r y2.1 y2.2⟩
 have hfl:(parts.map fun (i,x)=>(i,ρ x)).toList=parts.toList.map fun (i,x)=>(i,ρ x):=by simp
 unfold execOp
 simp only [ho,Instr.build,Sem.run_bind,zeroB.run hz,Result.andThen_ok,run_underlying hu,sizeB.run hs,hfl,y1,Sem.run_pure]
theorem Y2 {t m k:Nat} {x y:Operand} {l:List D} {d:D} {el:TypeId} {ik:IntKind} {a:Int} (ho:o.op= .index t x y) (hx:e x= .d (.agg l)) (hy:e y= .d (.v (.int ik a))) (ha:a=(k:Int)) (hu:P.underlying t=some (.array m el)) (hs:scB P el=true) (h1:sizeB P el 1=true) (hk:k<m) (hd:l[k]? =some d):By P o e h (.d d):=by
 subst ha;exact Apv ho hx hy hu hs h1 hk hd
theorem Au3 {t el:TypeId} {x:Operand} {sz:Nat} {g:α→List D} {l:List α} (ho:o.op= .call {callee:= .builtin .len,args:= #[x],argTypes:= #[t]}) (hx:e x= .d (.sl sz (l.map g))) (hu:P.underlying t=some (.slice el)):By P o e h (.d (.v (.int .i64 (l.length:Nat)))):=by
 have:=Awr (P:=P) (h:=h) ho hx hu
 rwa [List.length_map] at this
theorem Cg {t el:TypeId} {x:Operand} {i sz:Nat} {ty:TypeId} {g:α→List D} {l:List α} (ho:o.op= .call {callee:= .builtin .len,args:= #[x],argTypes:= #[t]}) (hx:e x= .own i) (hi:h i=some (.row ty sz (l.map g))) (hu:P.underlying t=some (.slice el)):By P o e h (.d (.v (.int .i64 (l.length:Nat)))):=by
 have:=My (P:=P) ho hx hi hu
 rwa [List.length_map] at this
theorem Am {t sz:Nat} {x y:Operand} {g:α→List D} {l:List α} {a:α} {k:Nat} {ik:IntKind} (ho:o.op= .indexAddr t x y) (hx:e x= .d (.sl sz (l.map g))) (hy:e y= .d (.v (.int ik k))) (hf:elB P t sz=true) (hk:l[k]? =some a):By P o e h (.d (.pt (g a))):=
 Apw ho hx hy hf (by rw [List.getElem?_map,hk];rfl)
theorem Ls {t sz:Nat} {x y:Operand} {i k:Nat} {ik:IntKind} {ty:TypeId} {g:α→List D} {l:List α} (ho:o.op= .indexAddr t x y) (hx:e x= .own i) (hy:e y= .d (.v (.int ik k))) (hi:h i=some (.row ty sz (l.map g))) (hf:elB P t sz=true) (hk:k<l.length):By P o e h (.ptr i k 0):=
 Anb ho hx hy hi hf (by rw [List.length_map];exact hk)
theorem F9 {t sz:Nat} {x y:Operand} {g:α→List D} {l:List α} {b:α} {k:Nat} {ik:IntKind} {a:Int} (ho:o.op= .indexAddr t x y) (hx:e x= .d (.sl sz (l.map g))) (hy:e y= .d (.v (.int ik a))) (ha:a=(k:Int)) (hf:elB P t sz=true) (hk:l[k]? =some b):By P o e h (.d (.pt (g b))):=by
 subst ha;exact Am ho hx hy hf hk
theorem Cu {t sz:Nat} {x y:Operand} {i k:Nat} {ik:IntKind} {a:Int} {ty:TypeId} {g:α→List D} {l:List α} (ho:o.op= .indexAddr t x y) (hx:e x= .own i) (hy:e y= .d (.v (.int ik a))) (ha:a=(k:Int)) (hi:h i=some (.row ty sz (l.map g))) (hf:elB P t sz=true) (hk:k<l.length):By P o e h (.ptr i k 0):=by
 subst ha;exact Ls ho hx hy hi hf hk
theorem Ee {t sz:Nat} {x:Operand} {lo hi:Option Operand} {g:α→List D} {l:List α} {a b:Nat} (ho:o.op= .slice t x lo hi none) (hx:e x= .d (.sl sz (l.map g))) (hf:elB P t sz=true)
  (hlo:Bd e lo 0 a) (hhi:Bd e hi l.length b) (hab:a≤b) (hb:b≤l.length):By P o e h (.d (.sl sz (((l.take b).drop a).map g))):=by
 have:=As4 (P:=P) (h:=h) ho hx hf hlo (b:=b) (by rw [List.length_map];exact hhi) hab (by rw [List.length_map];exact hb)
 rwa [←List.map_take, ←List.map_drop] at this
theorem Xt {g:α→List D} {l l':List α}:l.map g++l'.map g=(l++l').map g:=by rw [List.map_append]
end
def ChK (P:Program) (n:Nat) (ops:Array Oper) (rest:List Oper) (f:Fr) (h:Xh) (acc:List (List Nat × S)) (G:List (List Nat × S)→Fr→Xh→Prop):Prop:=∃L f' h',Ch P n ops rest f h L f' h'∧G (acc++L) f' h'
section
variable {P:Program} {n:Nat} {ops:Array Oper} {rest:List Oper} {f:Fr} {h h1:Xh} {o:Oper} {s:S} {ids:List Nat} {acc:List (List Nat × S)} {G:List (List Nat × S)→Fr→Xh→Prop}
theorem ChK.nil (hg:G acc f h):ChK P n ops [] f h acc G:=⟨[],f,h, .nil _ _,by rw [List.append_nil];exact hg⟩
theorem ChK.cons (hw:Cv ops f n o.guard=some true) (hc:CStep P o f h ids s h1) (hr:ChK P n ops rest (Ca f o.dst s) h1 (acc++ [(ids,s)]) G):ChK P n ops (o::rest) f h acc G:=by
 obtain ⟨L,f',h',k1,k2⟩:=hr
 exact ⟨(ids,s)::L,f',h', .cons hw hc k1,by rw [List.append_assoc] at k2;exact k2⟩
theorem ChK.skip (hw:Cv ops f n o.guard=some false) (hr:ChK P n ops rest (Ca f o.dst (.d (.v undef))) h (acc++ [([], .d (.v undef))]) G):ChK P n ops (o::rest) f h acc G:=by
 obtain ⟨L,f',h',k1,k2⟩:=hr
 exact ⟨_::L,f',h', .skip hw k1,by rw [List.append_assoc] at k2;exact k2⟩
theorem Bm {id:Nat} {l:List Oper} {K:Ei} (sites:List Nat) (hm:P.follows .mixedOrders=true) (hin:l.all (inN n)=true) (hreg:M7 l.toArray l=true) (hnd:sites.Nodup)
  (hc:ChK P n l.toArray l (Fs f sites) (Gb h sites) [] (fun L f' h'=>L.flatMap (·.1)=sites∧K .normal f' h')):XW P n (.region id l.toArray true) K f h:=by
 obtain ⟨L,f',h',k1,k2,k3⟩:=hc
 exact Ar1 sites hm hin hreg k1 k2 hnd k3
end
theorem Ea {e:TypeId} {sz:Nat} {α:Type} {g:α→List D} {l l':List α} {a:α} {ds:List D} (hd:ds=g a) (hl:l'=l++ [a]):some (XO.row e sz (l.map g++ [ds]))=some (XO.row e sz (l'.map g)):=by rw [hl,hd,List.map_append];rfl
theorem Fw {e:TypeId} {sz:Nat} {α:Type} {g:α→List D} {l l' m:List α} (hl:l'=l++m):some (XO.row e sz (l.map g++m.map g))=some (XO.row e sz (l'.map g)):=by rw [hl,List.map_append]
theorem Bp {α:Type} {l:List α} {k:Nat} {x:α} (h:l[k]? =some x):l.take (k+1)=l.take k++ [x]:=by rw [List.take_add_one,h,Option.toList_some]
theorem rI {a b:Int} (h:a=b):D.v (.int .i64 a)= .v (.int .i64 b):=by rw [h]
theorem rB {a b:Bool} (h:a=b):D.v (.bool a)= .v (.bool b):=by rw [h]
theorem sI {a b:Int} (h:a=b):S.d (.v (.int .i64 a))= .d (.v (.int .i64 b)):=by rw [h]
theorem sB {a b:Bool} (h:a=b):S.d (.v (.bool a))= .d (.v (.bool b)):=by rw [h]
theorem r2 {a b a' b':D} (h:a=a') (h':b=b'):D.tup [a,b]= .tup [a',b']:=by rw [h,h']
theorem r3 {a b c a' b' c':D} (h:a=a') (h':b=b') (h'':c=c'):D.tup [a,b,c]= .tup [a',b',c']:=by rw [h,h',h'']
theorem rSl {sz:Nat} {α:Type} {g:α→List D} {l l':List α} (h:l=l'):D.sl sz (l.map g)= .sl sz (l'.map g):=by rw [h]
theorem Pw {e:TypeId} {sz:Nat} {α:Type} {g:α→List D} {l l':List α} (h:l=l'):some (XO.row e sz (l.map g))=some (XO.row e sz (l'.map g)):=by rw [h]
end Go.Proofs.YtcihalbakenleaaGreat
namespace Go.Proofs.YtcihalbakenleaaGreat
open Go.RowKit
mutual
inductive DSub:D→D→Prop where
  |same {d d':D} (h:d=d'):DSub d d'
  |nil (sz:Nat):DSub (.v (.slice none 0 0)) (.sl sz [])
  |agg {l l':List D} (h:DSubL l l'):DSub (.agg l) (.agg l')
inductive DSubL:List D→List D→Prop where
  |nil:DSubL [] []
  |cons {d d':D} {l l':List D} (h:DSub d d') (hl:DSubL l l'):DSubL (d::l) (d'::l')
end
theorem DSubL.length:∀{l l':List D},DSubL l l'→l.length=l'.length
  |_,_, .nil=>rfl
  |_,_, .cons _ hl=>by simp [hl.length]
theorem DSubL.get:∀{l l':List D},DSubL l l'→∀{i:Nat} {d':D},l'[i]? =some d'→∃d,l[i]? =some d∧DSub d d'
  |_,_, .cons h _,0,_,e=>by simp at e;subst e;exact ⟨_,rfl,h⟩
  |_,_, .cons _ hl,i+1,d',e=>by
    obtain ⟨d,h1,h2⟩:=hl.get (i:=i) (d':=d') (by simpa using e)
    exact ⟨d,by simpa using h1,h2⟩
mutual
theorem DSub.vd:∀{d d':D},DSub d d'→∀{H:Hp} {u:Value},VD H u d→VD H u d'
  |_,_, .same h,_,_,hv=>by subst h;exact hv
  |_,_, .nil sz,_,_,hv=>by rw [Ul hv];exact .emp none 0 sz (fun _=>rfl) (Nat.zero_le _)
  |_,_, .agg h,H,u,hv=>by
    obtain ⟨cs,rfl,h1,h2⟩:=Vp hv
    refine .agg cs _ (h1.trans h.length) fun i x d' hx hd=> ?_
    exact DSubL.vd h hd fun d hd'=>h2 i x d hx hd'
theorem DSubL.vd:∀{l l':List D},DSubL l l'→∀{i:Nat} {d':D},l'[i]? =some d'→∀{H:Hp} {x:Value},(∀d,l[i]? =some d→VD H x d)→VD H x d'
  |_,_, .cons h _,0,_,e,_,_,hv=>by simp at e;subst e;exact h.vd (hv _ rfl)
  |_,_, .cons _ hl,i+1,d',e,_,_,hv=>DSubL.vd hl (i:=i) (by simpa using e) fun d hd=>hv d (by simpa using hd)
end
theorem RV.sub {P:Program} {n:Nat} {f:Fr} {h:Xh} {rv:ResultVar} {d d':D} (hr:RV P n f h rv d) (hs:DSub d d'):RV P n f h rv d':=fun E H β a w h1 h2=>by
  obtain ⟨u,e,v⟩:=hr E H β a w h1 h2
  exact ⟨u,e,hs.vd v⟩
inductive AS (f:Fr):List Operand→List D→Prop where
  |nil:AS f [] []
  |cons {x:Operand} {l:List Operand} {d d':D} {ds:List D} (hx:ev f x= .d d) (hs:DSub d d') (hl:AS f l ds):AS f (x::l) (d'::ds)
theorem AS.len {f:Fr} {l:List Operand} {ds:List D} (h:AS f l ds):l.length=ds.length:=by
  induction h with
  |nil=>rfl
  |cons _ _ _ ih=>simp [ih]
theorem AS.get {f:Fr} {l:List Operand} {ds:List D} (h:AS f l ds):∀{i:Nat} {x:Operand} {d:D},l[i]? =some x→ds[i]? =some d→∃d0,ev f x= .d d0∧DSub d0 d:=by
  induction h with
  |nil=>intro i x d h;simp at h
  | @cons x l d d' ds hx hs _ ih=>
    intro i y e h1 h2
    cases i with
    |zero=>simp at h1 h2;subst h1 h2;exact ⟨d,hx,hs⟩
    |succ i=>exact ih (by simpa using h1) (by simpa using h2)
theorem AS.vd {f:Fr} {H:Hp} {β:Bt} {a:Act} {args:Array Operand} {ds:List D} (ha:AS f args.toList ds) (hv:∀x∈args,VS H β (a.eval x) (ev f x)):
    (args.map a.eval).size=ds.length∧∀(i:Nat) (x:Value) (d:D),(args.map a.eval)[i]? =some x→ds[i]? =some d→VD H x d:=by
  have hl:=ha.len
  rw [Array.length_toList] at hl
  refine ⟨by simpa using hl,fun i x d hx hd=> ?_⟩
  have hi:i<args.size:=by have:=(List.getElem?_eq_some_iff.1 hd).1;omega
  have hx':x=a.eval args[i]:=by
    rw [Array.getElem?_map,Array.getElem?_eq_getElem hi] at hx
    simpa using hx.symm
  obtain ⟨d0,h1,h2⟩:=ha.get (i:=i) (x:=args[i]) (by rw [Array.getElem?_toList,Array.getElem?_eq_getElem hi]) hd
  have:=hv args[i] (Array.getElem_mem hi)
  rw [h1] at this
  rw [hx']
  exact h2.vd (E1 this)
section
variable {P:Program} {n:Nat} {ops:Array Oper} {rest:List Oper} {K:Ei} {f:Fr} {h:Xh} {o:Oper} {F:FuncId} {ds:List D} {args:Array Operand} {tys:Array TypeId} {r:D}
theorem XL.calls (ho:o.op= .call {callee:= .value (.func F),args:=args,argTypes:=tys}) (hw:Cv ops f n o.guard=some true) (hx:XC P F ds (fun d=>d=r))
    (ha:AS f args.toList ds) (hr:XL P n ops rest K (Ca f o.dst (.d r)) h):XL P n ops (o::rest) K f h:=by
  refine XL.stepR (f':=f) (h':=h) (R:=fun s=>s= .d r) hw (fun E H β a w hs hf hop=> ?_) (by rintro s rfl;exact hr)
  have hop':∀x∈args,VS H β (a.eval x) (ev f x):=fun x hx=>hop x (by rw [ho];simp [Op.operands,Call.operands,hx])
  obtain ⟨hsz,hvd⟩:=ha.vd hop'
  have hrun:(execOp a.eval o).run P w= .ok (.enter F (args.map a.eval)) w:=by
    have:=hx.callable.run (args.map a.eval) w
    unfold execOp
    simp only [ho,resolve,Act.eval,Deferred.ofValue,Sem.run_bind,Sem.run_pure,Result.andThen_ok,invoke,Array.append_empty,Array.empty_append]
    exact this
  unfold Oper.wp
  rw [hrun]
  refine (hx.calls H w _ hs.imm hsz hvd).mono ?_
  rintro e w' ⟨H',u,r',rfl,rfl,hle,hnew,him,hb,hu⟩
  exact ⟨H',β,u, .d r',rfl,hs.call hb hle hnew him,hf.mono hle (fun _ _ h=>h), .d hu,rfl⟩
theorem CStep.calls (ho:o.op= .call {callee:= .value (.func F),args:=args,argTypes:=tys}) (hx:XC P F ds (fun d=>d=r)) (ha:AS f args.toList ds):CStep P o f h [] (.d r) h:=
  ⟨HLe.refl _, fun _ _ e => .inl e, fun hF hle E H β a w hs _ hop => by
    have hop':∀x∈args,VS H β (a.eval x) (ev f x):=fun x hx=>hop x (by rw [ho];simp [Op.operands,Call.operands,hx])
    obtain ⟨hsz,hvd⟩:=ha.vd hop'
    have hrun:(execOp a.eval o).run P w= .ok (.enter F (args.map a.eval)) w:=by
      have:=hx.callable.run (args.map a.eval) w
      unfold execOp
      simp only [ho,resolve,Act.eval,Deferred.ofValue,Sem.run_bind,Sem.run_pure,Result.andThen_ok,invoke,Array.append_empty,Array.empty_append]
      exact this
    unfold Oper.wp
    rw [hrun]
    refine (hx.calls H w _ hs.imm hsz hvd).mono ?_
    rintro e w' ⟨H',u,r',rfl,rfl,hle',hnew,him,hb,hu⟩
    exact ⟨H', β, u, rfl, hs.call hb hle' hnew him, hle', fun _ _ h => h, fun _ _ => rfl, .d hu⟩⟩
theorem OKo.sub {base:Nat} {w:World} {H:Hp} {β:Bt} {L:Loc} {e:TypeId} {sz:Nat} {l l':List (List D)} (hk:OKo base w H β L (.row e sz l)) (hl:l.length=l'.length) (hs:∀(k:Nat) (x x':List D),l[k]? =some x→l'[k]? =some x'→DSubL x x'):OKo base w H β L (.row e sz l'):=by
  obtain ⟨h0,hz,hv,us,h2,h3,h4⟩:=hk
  have hget:∀(k:Nat) (x':List D),l'[k]? =some x'→∃x,l[k]? =some x∧DSubL x x':=fun k x' hx'=>by
    have hk:k<l.length:=by rw [hl];exact (List.getElem?_eq_some_iff.1 hx').1
    exact ⟨_,List.getElem?_eq_getElem hk,hs k _ x' (List.getElem?_eq_getElem hk) hx'⟩
  refine ⟨h0,fun x' hx'=> ?_,hv,us,by rw [←hl];exact h2,h3,fun k j x' d' hx' hd'=> ?_⟩
  · obtain ⟨k,hk⟩:=List.getElem?_of_mem hx'
    obtain ⟨x,h1,h2⟩:=hget k x' hk
    rw [←h2.length]
    exact hz x (List.mem_of_getElem? h1)
  · obtain ⟨x,h1,h2⟩:=hget k x' hx'
    obtain ⟨d,h5,h6⟩:=h2.get hd'
    obtain ⟨u,h7,h8⟩:=h4 k j x d h1 h5
    exact ⟨u,h7,h6.vd h8⟩
theorem Sim.rowsub {E:Env} {H:Hp} {β:Bt} {w:World} (s:Sim E H β h w) {i:Nat} {e:TypeId} {sz:Nat} {l l':List (List D)} (hi:h i=some (.row e sz l)) (hl:l.length=l'.length) (hs:∀(k:Nat) (x x':List D),l[k]? =some x→l'[k]? =some x'→DSubL x x'):
    Sim E H β (h.set i (.row e sz l')) w:=by
  have aux:∀j o L,h.set i (.row e sz l') j=some o→β j=some L→∃o',h j=some o'∧o.blk L=o'.blk L∧(OKo E.w.heap.size w H β L o'→OKo E.w.heap.size w H β L o):=by
    intro j o L ho hL
    by_cases e':i=j
    · subst e'
      rw [Xh.set_same] at ho
      cases ho
      exact ⟨_,hi,rfl,fun hk=>hk.sub hl hs⟩
    · rw [Xh.set_ne _ _ e'] at ho
      exact ⟨o,ho,rfl,fun hk=>hk⟩
  refine ⟨s.below,s.ext,s.new,s.imm,fun j o L ho hL=> ?_,fun j o L ho hL b hb=> ?_,fun j j' o o' L L' b hjj ho ho' hL hL' hb=> ?_,fun j o ho hg=> ?_⟩
  rotate_left 3
  · by_cases e':i=j
    · subst e';rw [Xh.set_same] at ho;cases ho;cases hg
    · rw [Xh.set_ne _ _ e'] at ho;exact s.dom j o ho hg
  · obtain ⟨o',h1,_,h3⟩:=aux j o L ho hL
    exact h3 (s.obj j o' L h1 hL)
  · obtain ⟨o',h1,h2,_⟩:=aux j o L ho hL
    rw [h2] at hb
    exact s.sep j o' L h1 hL b hb
  · obtain ⟨o1,h1,h2,_⟩:=aux j o L ho hL
    obtain ⟨o2,h3,h4,_⟩:=aux j' o' L' ho' hL'
    rw [h2] at hb
    rw [h4]
    exact s.inj j j' o1 o2 L L' b hjj h1 h3 hL hL' hb
theorem XL.row1 {i:Nat} {e:TypeId} {sz:Nat} {x x':List D} (hi:h i=some (.row e sz [x])) (hs:DSubL x x') (hr:XL P n ops rest K f (h.set i (.row e sz [x']))):XL P n ops rest K f h:=fun hin E H β a w h1 h2=>
  hr hin E H β a w (h1.rowsub hi rfl fun k y y' e1 e2 => by
    match k with
    |0=>simp at e1 e2;subst e1 e2;exact hs
    | k + 1 => simp at e1) h2
end
theorem V0 {P:Program} {o:Oper} {f:Fr} {h:Xh} {E:Env} {H:Hp} {β:Bt} {a:Act} {w:World} {t ty:TypeId} {sz len:Nat} {parts:Array (Nat × Operand)} {z:Value} {l:List (List D)} (ho:o.op= .buildSlice t len parts) (hu:P.underlying t=some (.slice ty)) (hsz:sizeB P ty sz=true) (hz:zeroB P ty z)
    (hr:Hz h (ev f) sz parts.toList=some l) (hlen:parts.toList.map (·.1)=List.range len) (hpos:0<sz) (hmax:len*sz≤16777216) {hF:Xh} (hle:HLe h hF) (hs:Sim E H β hF w) (hop:∀x∈o.op.operands,VS H β (a.eval x) (ev f x)):
    ∃(u:Value) (H':Hp) (w':World),(execOp a.eval o).run P w= .ok (.value u) w'∧Sim E H' β hF w'∧H.le H'∧VD H' u (.sl sz l):=by
  have hpl:parts.toList.length=len:=by have:=congrArg List.length hlen;simpa using this
  have hcells0:CellsAt H β ((Array.range (len*sz)).map (z.cells[· % z.cells.size]!)) ((List.range (len*sz)).map fun j=> .d (.v (z.cells[j % z.cells.size]!))):=by
    refine ⟨by simp,fun j v s hj hs'=> ?_⟩
    rw [List.getElem?_map] at hs'
    rw [Array.getElem?_map] at hj
    by_cases hlt:j<len*sz
    · rw [List.getElem?_range hlt] at hs'
      have:(Array.range (len*sz))[j]? =some j:=by simp [hlt]
      rw [this] at hj
      cases hj;cases hs'
      exact .d (.v _)
    · rw [List.getElem?_eq_none (by simpa using hlt)] at hs';cases hs'
  have mono:∀(ps:List (Nat × Operand)) (l:List (List D)),Hz h (ev f) sz ps=some l→Hz hF (ev f) sz ps=some l:=by
    intro ps
    induction ps with
    |nil=>intro l h;exact h
    |cons q ps ih=>
      obtain ⟨i,x⟩:=q
      intro l hl
      unfold Hz at hl ⊢
      cases hc:Fu h (ev f x) with
      |none=>rw [hc] at hl;cases hl
      |some cs=>
        rw [hc] at hl
        rw [Ue hle hc]
        simp only at hl ⊢
        cases hd:Kr cs with
        |none=>rw [hd] at hl;cases hl
        |some ds=>
          rw [hd] at hl
          simp only at hl ⊢
          cases hr:Hz h (ev f) sz ps with
          |none=>rw [hr] at hl;cases hl
          |some l'=>rw [hr] at hl;rw [ih l' hr];exact hl
  have hr':=mono _ _ hr
  obtain ⟨r1,r2,r3⟩:=Px parts.toList l 0 ((List.range (len*sz)).map fun j=>S.d (.v (z.cells[j % z.cells.size]!))) hr' (by rw [hlen,hpl,List.range_eq_range']) (by simp [hpl])
  obtain ⟨ys,y1,y2⟩:=M4 hs (ρ:=a.eval) parts.toList _ _ _ hcells0 (fun x hx=>hop x (by rw [ho];simpa [Op.operands] using hx)) r3
  have hll:l.length=len:=by rw [r2,hpl]
  rw [Nat.zero_mul,List.take_zero,List.nil_append] at y2
  have hysz:ys.size=len*sz:=by rw [y2.1,List.length_map,Gs r1,hll]
  have hrun:(execOp a.eval o).run P w= .ok (.value (.slice (some ⟨w.heap.size,0,none⟩) l.length len)) (w.alloc (.cells ys ty)):=by
    have hfl:(parts.map fun (i,x)=>(i,a.eval x)).toList=parts.toList.map fun (i,x)=>(i,a.eval x):=by simp
    unfold execOp
    simp only [ho,Instr.buildSlice,Sem.run_bind,run_underlying hu,Result.andThen_ok,sizeB.run hsz,show ¬len*sz>2 ^ 24 by omega,if_false,Sem.run_pure]
    by_cases h0:len*sz=0
    · have hl0:len=0:=by
        rcases Nat.mul_eq_zero.1 h0 with h|h
        · exact h
        · omega
      subst hl0
      have hp0:parts.toList= []:=List.eq_nil_of_length_eq_zero hpl
      have hys:ys= #[]:=Array.eq_empty_of_size_eq_zero (by rw [hysz];simp)
      simp only [h0,if_true,Sem.run_pure,Result.andThen_ok,hfl,hp0,List.map_nil,Instr.fill,newRow,Sem.run_bind,run_newObj,World.alloc_eq,hll,hys,Abi]
    · simp only [h0,if_false,Sem.run_bind,zeroB.run hz,Result.andThen_ok,Sem.run_pure,hfl,y1,newRow,run_newObj,World.alloc_eq,hll]
  have hone:∀u∈ys,u.oneCell'=true:=fun u hu=>by
    obtain ⟨j,hj⟩:=Array.getElem?_of_mem hu
    have hjl:=(Array.getElem?_eq_some_iff.1 hj).1
    have hd:∃d,l.flatten[j]? =some d:=⟨_,List.getElem?_eq_getElem (by rw [Gs r1,hll, ←hysz];exact hjl)⟩
    obtain ⟨d,hd⟩:=hd
    have:=y2.2 j u (.d d) hj (by rw [List.getElem?_map,hd];rfl)
    exact Vn (E1 this) (Uv hr' d (List.mem_of_getElem? hd))
  have hnone:∀off,H w.heap.size off=none:=fun off=>by
    cases e:H w.heap.size off with
    |none=>rfl
    |some u=>have:=hs.imm.lt e;omega
  have hbel:Below w.heap.size w (w.alloc (.cells ys ty)):=(Below.refl _ _).alloc (Nat.le_refl _) _
  have him:Imm (H.plus w.heap.size (ys[·]?)) (w.alloc (.cells ys ty)):=fun b k u e=>by
    rcases Hp.plus_new e with k1|⟨rfl,k2⟩
    · exact (hs.imm.below hbel) b k u k1
    · exact ⟨by rw [World.cell?_alloc_new];exact k2,hone u (Array.mem_of_getElem? k2)⟩
  have hsim := hs.call hbel (Hp.plus_le H w.heap.size (ys[·]?)) (fun b k u e => by
    rcases Hp.plus_new e with k1|⟨rfl,_⟩
    · exact .inl k1
    · exact .inr (Nat.le_refl _)) him
  refine ⟨_,_,_,hrun,hsim,Hp.plus_le _ _ _, ?_⟩
  by_cases h0:l= []
  · subst h0
    exact .emp _ _ _ (fun h=>by cases h) (by have:len=0:=(by rw [←hll];rfl);unfold maxLen;omega)
  · have hget:∀(k j:Nat) (x:List D) (d:D),l[k]? =some x→x[j]? =some d→ys[0+(k*sz+j)]? =some ((ys[k*sz+j]?).getD undef)∧VD H ((ys[k*sz+j]?).getD undef) d:=by
      intro k j x d hk hj
      have hg:=P3 r1 hk hj
      have hlt:=(List.getElem?_eq_some_iff.1 hg).1
      rw [Gs r1,hll, ←hysz] at hlt
      have hy:ys[k*sz+j]? =some ys[k*sz+j]:=Array.getElem?_eq_getElem hlt
      rw [Nat.zero_add,hy]
      exact ⟨rfl,E1 (y2.2 _ _ (.d d) hy (by rw [List.getElem?_map,hg];rfl))⟩
    exact .sl w.heap.size 0 l.length len sz l (fun k j=>(ys[k*sz+j]?).getD undef) rfl (by omega) (by unfold maxLen;have:len≤len*sz:=Nat.le_mul_of_pos_right _ hpos;omega) r1
      (fun k j x d h1 h2=>by rw [Hp.plus_at hnone];exact (hget k j x d h1 h2).1) (fun k j x d h1 h2=>((hget k j x d h1 h2).2).mono (Hp.plus_le _ _ _))
section
variable {P:Program} {n:Nat} {o:Oper} {f:Fr} {h:Xh} {t ty:TypeId} {sz len:Nat} {parts:Array (Nat × Operand)} {z:Value} {l:List (List D)}
theorem Lb (ho:o.op= .buildSlice t len parts) (hu:P.underlying t=some (.slice ty)) (hsz:sizeB P ty sz=true) (hz:zeroB P ty z)
    (hr:Hz h (ev f) sz parts.toList=some l) (hlen:parts.toList.map (·.1)=List.range len) (hpos:0<sz) (hmax:len*sz≤16777216):Step P n o f h (.d (.sl sz l)) f h:=by
  intro E H β a w hs hf hop
  obtain ⟨u,H',w',r1,r2,r3,r4⟩:=V0 ho hu hsz hz hr hlen hpos hmax (HLe.refl _) hs hop
  unfold Oper.wp
  rw [r1]
  exact ⟨H',β,u,rfl,r2,hf.mono r3 (fun _ _ h=>h), .d r4⟩
theorem CStep.slice (ho:o.op= .buildSlice t len parts) (hu:P.underlying t=some (.slice ty)) (hsz:sizeB P ty sz=true) (hz:zeroB P ty z)
    (hr:Hz h (ev f) sz parts.toList=some l) (hlen:parts.toList.map (·.1)=List.range len) (hpos:0<sz) (hmax:len*sz≤16777216):CStep P o f h [] (.d (.sl sz l)) h:=
  ⟨HLe.refl _, fun _ _ e => .inl e, fun hF hle E H β a w hs _ hop => by
    obtain ⟨u,H',w',r1,r2,r3,r4⟩:=V0 ho hu hsz hz hr hlen hpos hmax hle hs hop
    unfold Oper.wp
    rw [r1]
    exact ⟨H', β, u, rfl, r2, r3, fun _ _ h => h, fun _ _ => rfl, .d r4⟩⟩
end
section
variable {P:Program} {o:Oper} {e:Operand→S} {h:Xh} {t t':TypeId} {x y:Operand} {a b:Int}
theorem Arj (ho:o.op= .binOp .and t x y t') (hx:e x= .d (.v (.int .i64 a))) (hy:e y= .d (.v (.int .i64 b))) (ha:0≤a) (ha':a≤9223372036854775807) (hb:0≤b) (hb':b≤9223372036854775807):By P o e h (.d (.v (.int .i64 ((a.toNat &&& b.toNat:Nat):Int)))):=
  Jc ho hx hy rfl (by simp) fun w=>by
    obtain ⟨m,rfl⟩:∃m:Nat,a=m:=⟨a.toNat,by omega⟩
    obtain ⟨k,rfl⟩:∃k:Nat,b=k:=⟨b.toNat,by omega⟩
    have hm:m<2 ^ 64:=by omega
    have hk:k<2 ^ 64:=by omega
    have h1:(BitVec.ofInt 64 (m:Int) &&& BitVec.ofInt 64 (k:Int)).toNat=m &&& k:=by
      rw [BitVec.toNat_and,BitVec.ofInt_natCast,BitVec.ofInt_natCast,BitVec.toNat_ofNat,BitVec.toNat_ofNat,Nat.mod_eq_of_lt hm,Nat.mod_eq_of_lt hk]
    have hle:m &&& k≤m:=Nat.and_le_left
    show (Op.intBits .and .i64 m k).run P w=_
    unfold Op.intBits
    simp only [Int.toNat_natCast]
    have h2:IntKind.i64.wrap ((m &&& k:Nat):Int)=((m &&& k:Nat):Int):=IntWalk.i64_in _ (by omega)
    show Result.ok (Value.int .i64 (IntKind.i64.wrap ((BitVec.ofInt 64 (m:Int) &&& BitVec.ofInt 64 (k:Int)).toNat:Int))) w=_
    rw [h1,h2]
theorem At5 (n k:Nat):n &&& 2 ^ k=if n / 2 ^ k % 2=1 then 2 ^ k else 0:=by
  have hb:n.testBit k=decide (n / 2 ^ k % 2=1):=Nat.testBit_eq_decide_div_mod_eq
  apply Nat.eq_of_testBit_eq
  intro j
  rw [Nat.testBit_and,Nat.testBit_two_pow]
  by_cases e:k=j
  · subst e
    rw [hb]
    split
    · rename_i h;simp [h]
    · rename_i h;simp [h]
  · split
    · rw [Nat.testBit_two_pow];simp [e]
    · simp [e]
end
section
variable {P:Program} {n:Nat} {o:Oper} {f:Fr} {h:Xh}
theorem A0 (i:Nat) {l:List S} {t:TypeId} {z:Value} (ho:o.op= .alloc t) (hz:zeroB P t z) (hl:S.killL i (z.cells.toList.map fun x=> .d (.v x))=l):Step P n o f h (.ptr i 0 0) (Ig f i) ((h.kill i).set i (.box l)):=by
  subst hl;exact Ao3 i ho hz
theorem At (i:Nat) {l:List S} {t:TypeId} {x:Operand} {cs:List S} (ho:o.op= .box t x) (hc:Fu h (ev f x)=some cs) (hl:S.killL i cs=l):Step P n o f h (.ptr i 0 0) (Ig f i) ((h.kill i).set i (.box l)):=by
  subst hl;exact Aun i ho hc
theorem Ag {t m:Nat} {x y:Operand} {i off:Nat} {l cs l':List S} (ho:o.op= .store t x y) (hx:ev f x= .ptr i 0 off) (hi:h i=some (.box l)) (hc:Fu h (ev f y)=some cs) (hz:sizeB P t m=true) (hm:cs.length=m) (hoff:off+m≤l.length) (hl:sets l off cs=l'):
    Step P n o f h (.d (.v undef)) f (h.set i (.box l')):=by
  subst hl;exact Ao1 ho hx hi hc hz hm hoff
theorem CStep.allocN (i:Nat) {l:List S} {t:TypeId} {z:Value} (ho:o.op= .alloc t) (hz:zeroB P t z) (hi:h i=none) (hl:(z.cells.toList.map fun x=>S.d (.v x))=l):CStep P o f h [i] (.ptr i 0 0) (h.set i (.box l)):=by
  subst hl;exact CStep.alloc i ho hz hi
end
section
variable {P:Program} {n:Nat} {ops:Array Oper} {rest:List Oper} {K K0:Ei} {f:Fr} {h:Xh} {o:Oper} {x y z:Operand} {d:D} {b:Bool} {s:S}
theorem zp (hp:By P o (ev f) h s) (hr:XL P n ops rest K (Ca f o.dst s) h) (hw:Cv ops f n o.guard=some true:=by exact rfl):XL P n ops (o::rest) K f h:=XL.pure hw hp hr
theorem zm (ho:o.op= .move x) (hs:ev f x= .d d) (hr:XL P n ops rest K (Ca f o.dst (.d d)) h) (hw:Cv ops f n o.guard=some true:=by exact rfl):XL P n ops (o::rest) K f h:=XL.pure hw (Aw ho hs) hr
theorem za (ho:o.op= .assign x) (hs:ev f x= .d d) (hr:XL P n ops rest K (Ca f o.dst (.d d)) h) (hw:Cv ops f n o.guard=some true:=by exact rfl):XL P n ops (o::rest) K f h:=XL.pure hw (Ar ho hs) hr
theorem zq (ho:o.op= .pick z x y) (hc:ev f z= .d (.v (.bool b))) (hs:(bif b then ev f x else ev f y)= .d d) (hr:XL P n ops rest K (Ca f o.dst (.d d)) h) (hw:Cv ops f n o.guard=some true:=by exact rfl):XL P n ops (o::rest) K f h:=XL.pure hw (Ba ho hc hs) hr
def skB (ops:Array Oper) (n:Nat):Nat→List Oper→Fr→Bool
  |0,_,_=>true
  |_+1, [],_=>false
  |k+1,o::r,f=>(match Cv ops f n o.guard with|some false=>true|_=>false) && skB ops n k r (Ca f o.dst (.d (.v undef)))
def skF:Nat→List Oper→Fr→Fr
  |0,_,f=>f
  |_+1, [],f=>f
  |k+1,o::r,f=>skF k r (Ca f o.dst (.d (.v undef)))
theorem zk (k:Nat) (hk:skB ops n k rest f=true) (hr:XL P n ops (rest.drop k) K (skF k rest f) h):XL P n ops rest K f h:=by
  induction k generalizing rest f with
  |zero=>exact hr
  |succ k ih=>
    cases rest with
    |nil=>cases hk
    |cons o r=>
      rw [skB,Bool.and_eq_true] at hk
      have hw:Cv ops f n o.guard=some false:=by
        have h1:=hk.1
        split at h1
        · assumption
        · cases h1
      exact XL.skip hw (ih hk.2 hr)
theorem zr {id:Nat} {l:List Oper} {c:Code} (hl:XL P n l.toArray l (Pc (XW P n c K) K) f h) (hin:l.all (inN n)=true:=by kernel_rfl):XW P n (.seq (.region id l.toArray false) c) K f h:=Al1 (Af hin hl)
theorem znr {id:Nat} {l:List Oper} {c:Code} (hl:XL P n l.toArray l (Pc (XW P n c K) K) f h) (hin:l.all (inN n)=true:=by kernel_rfl):XL P n ops [] (Pc (XW P n (.seq (.region id l.toArray false) c) K) K0) f h:=XL.nil (zr hl hin)
theorem zng {id:Nat} {l:List Oper} (hl:XL P n l.toArray l K f h) (hin:l.all (inN n)=true:=by kernel_rfl):XL P n ops [] (Pc (XW P n (.region id l.toArray false) K) K0) f h:=XL.nil (Af hin hl)
theorem yp {acc:List (List Nat × S)} {G:List (List Nat × S)→Fr→Xh→Prop} (hp:By P o (ev f) h s) (hr:ChK P n ops rest (Ca f o.dst s) h (acc++ [([],s)]) G) (hw:Cv ops f n o.guard=some true:=by exact rfl):ChK P n ops (o::rest) f h acc G:=ChK.cons hw (CStep.pure hp) hr
theorem ym {acc:List (List Nat × S)} {G:List (List Nat × S)→Fr→Xh→Prop} (ho:o.op= .move x) (hs:ev f x= .d d) (hr:ChK P n ops rest (Ca f o.dst (.d d)) h (acc++ [([], .d d)]) G) (hw:Cv ops f n o.guard=some true:=by exact rfl):ChK P n ops (o::rest) f h acc G:=ChK.cons hw (CStep.pure (Aw ho hs)) hr
theorem ya {acc:List (List Nat × S)} {G:List (List Nat × S)→Fr→Xh→Prop} (ho:o.op= .assign x) (hs:ev f x= .d d) (hr:ChK P n ops rest (Ca f o.dst (.d d)) h (acc++ [([], .d d)]) G) (hw:Cv ops f n o.guard=some true:=by exact rfl):ChK P n ops (o::rest) f h acc G:=ChK.cons hw (CStep.pure (Ar ho hs)) hr
theorem zn (hk:K .normal f h):XL P n ops [] K f h:=XL.nil hk
theorem zs {x y:Code} (hx:XW P n x (Pc (XW P n y K) K) f h):XW P n (.seq x y) K f h:=Al1 hx
theorem zt (hk:K .ret f h):XW P n .ret K f h:=At8 hk
theorem zi (hk:K .normal f h):XW P n .skip K f h:=Ary hk
theorem zd {c:Operand} {x y:Code} {p:Prop} [Decidable p] (hc:ev f c= .d (.v (.bool (decide p)))) (h1:p→XW P n x K f h) (h2:¬p→XW P n y K f h) (hi:U4 n c=true:=by kernel_rfl):XW P n (.cond c x y) K f h:=At9 hi hc h1 h2
theorem z1 {fn:Func} {R:D→Prop} {t:Nat} (hr:fn.results= #[.tmp t]) (hf:f t= .d d) (hR:R d) (ht:Nat.blt t n=true:=by exact rfl):Mt P n fn R f h:=F6 hr (RV.tmp ht hf) hR
theorem sr {s:S}:Sub s s:= .same rfl
def FA (f:Fr):List (Nat × S)→Prop
  | []=>True
  |(t,s)::l=>Sub (f t) s∧FA f l
theorem fz:∀{l:List (Nat × S)},FA f l→FSub n f (mkF l)
  | [],_=>FSub.nil
  |(_,_)::_,h=>FSub.cons h.1 (fz h.2)
def HA (h:Xh):List (Nat × XO)→Prop
  | []=>True
  |(i,o)::l=>h i=some o∧HA h l
theorem gz:∀{l:List (Nat × XO)},HA h l→HSub h (mkH l)
  | [],_=>HSub.nil
  |(_,_)::_,k=>HSub.cons k.1 (gz k.2)
end
end Go.Proofs.YtcihalbakenleaaGreat
namespace Go.Proofs.YtcihalbakenleaaGreat
open Go.RowKit
def Ut:Nat→Int
 |0=>0|1=>2|2=>4|3=>5|4=>7|5=>9|_=>11
theorem Aig (k:Nat):0≤Ut k∧Ut k≤11:=by unfold Ut;split<;>omega
def Amp:List D:= [dI 0,dI 2,dI 4,dI 5,dI 7,dI 9,dI 11]
theorem Amo (k:Nat) (h:k<7):Amp[k]? =some (dI (Ut k)):=by
 match k,h with
 |0,_=>rfl|1,_=>rfl|2,_=>rfl|3,_=>rfl|4,_=>rfl|5,_=>rfl|6,_=>rfl
 |k+7,h=>omega
def Pit.inR (p:Pit):Prop:=0≤p.step∧p.step≤6∧ -2≤p.alter∧p.alter≤2∧ -1≤p.oct∧p.oct≤9
instance (p:Pit):Decidable p.inR:=by unfold Pit.inR;exact inferInstance
def Pit.n (p:Pit):Int:=12*(p.oct+1)+Ut p.step.toNat+p.alter
def Pit.good (p:Pit):Prop:=p.inR∧0≤p.n∧p.n≤127
instance (p:Pit):Decidable p.good:=by unfold Pit.good;exact inferInstance
def Pit.err (p:Pit):Int:=if p.good then 0 else 18
def Pit.num (p:Pit):Int:=if p.good then p.n else 0
theorem Aa7  :XC Tryz.prog 192 [] (fun r=>r= .agg Amp):=by
 refine Ao Ac2 Tryz.func192 R R lb<|zr<|XL.step R (A0 0 (l:= [.d (dI 0), .d (dI 0), .d (dI 0), .d (dI 0), .d (dI 0), .d (dI 0), .d (dI 0)]) R Aam (by kernel_rfl))<|znr<|zp (Ae (s':= .d (.agg [dI 0,dI 2,dI 4,dI 5,dI 7,dI 9,dI 11])) (Ac (Q8 R Tryz.underlying210 Cs Aam R)) (by kernel_rfl))<|?_
 refine XL.step R (Ag (l':= [.d (dI 0), .d (dI 2), .d (dI 4), .d (dI 5), .d (dI 7), .d (dI 9), .d (dI 11)]) R R R R Aug R lb (by kernel_rfl))<|zn<|zt<|?_
 exact F6 R (RV.cells R R R At6 lb R) (R)
theorem Wi (p:Pit) (h:p.inR):XC Tryz.prog 189 [.agg (Pit.c p)] (fun r=>r=dI p.n):=by
 obtain ⟨k,hk⟩:∃k:Nat,p.step=k:=⟨p.step.toNat,by have:=h.1;omega⟩
 have hb:=Aig k
 have h':=h
 simp only [Pit.inR] at h
 refine Ao Ac5 Tryz.func189 R R lb<|zr<|XL.step R (At 1 (l:= [.d (dI p.step), .d (dI p.alter), .d (dI p.oct)]) R R (by kernel_rfl))<|za R R<|zn<|zs<|Bm [] (by kernel_rfl) (by kernel_rfl) (by kernel_rfl) (by decide)<|yp (Aa R R Mj)<|yp (Ab R R Ai R R)<|yp (Aj R R R (by omega) (by omega))<|yp (H7 R R R (by omega) (by omega))<|?_
 refine ChK.cons R (CStep.call R (Aa7) R)<|yp (Aa R R Ml)<|yp (Ab R R Ai R R)<|yp (Y2 (k:=k) R R R hk Tryz.underlying210 Ai Cs (by omega) (Amo k (by omega)))<|yp (Aj R R R (by omega) (by omega))<|yp (Aa R R Mk)<|yp (Ab R R Ai R R)<|yp (Aj R R R (by omega) (by omega))<|ya R R<|?_
 refine ChK.nil ⟨by kernel_rfl, ?_⟩
 exact zt<|z1 R R (rI (by rw [Pit.n,hk];rfl))
theorem Pit.inR_mk {p:Pit} (h1:¬p.step<0) (h2:¬6<p.step) (h3:¬p.alter< -2) (h4:¬2<p.alter) (h5:¬p.oct< -1) (h6:¬9<p.oct):p.inR:=⟨by omega,by omega,by omega,by omega,by omega,by omega⟩
theorem Pit.err_no {p:Pit} (h:¬p.good):18=p.err:=by rw [Pit.err,if_neg h]
theorem Pit.err_ok {p:Pit} (h:p.good):0=p.err:=by rw [Pit.err,if_pos h]
theorem Am9 (p:Pit):XC Tryz.prog 188 [.agg (Pit.c p)] (fun r=>r=dI p.err):=by
 refine Ao Ac6 Tryz.func188 R R lb<|zr<|XL.step R (At 1 (l:= [.d (dI p.step), .d (dI p.alter), .d (dI p.oct)]) R R (by kernel_rfl))<|za R R<|zn<|zs<|zr<|zp (Aa R R Ml)<|zp (Ab R R Ai R R)<|zp (As R R R)<|zm R R<|?_
 refine XL.dec 7 R (fun g7=> ?_) (fun g7=> ?_)
 refine zk 3 R<|zq R R R<|zm R R<|zk 3 R<|zq R R R<|zm R R<|zk 3 R<|zq R R R<|zm R R<|zk 3 R<|zq R R R<|zm R R<|zk 3 R<|zq R R R<|?_
 exact zn<|Aq (by kernel_rfl) R<|zr<|za R R<|zn<|zt<|z1 R R (rI (Pit.err_no fun h=>by obtain ⟨⟨h1,h2,h3,h4,h5,h6⟩,_⟩:=h;omega))
 refine zp (Aa R R Ml)<|zp (Ab R R Ai R R)<|zp (Bb R R R)<|zq R R R<|zm R R<|?_
 refine XL.dec 12 R (fun g12=> ?_) (fun g12=> ?_)
 refine zk 3 R<|zq R R R<|zm R R<|zk 3 R<|zq R R R<|zm R R<|zk 3 R<|zq R R R<|zm R R<|zk 3 R<|zq R R R<|zn<|Aq (by kernel_rfl) R<|zr<|?_
 exact za R R<|zn<|zt<|z1 R R (rI (Pit.err_no fun h=>by obtain ⟨⟨h1,h2,h3,h4,h5,h6⟩,_⟩:=h;omega))
 refine zp (Aa R R Mk)<|zp (Ab R R Ai R R)<|zp (As R R R)<|zq R R R<|zm R R<|?_
 refine XL.dec 17 R (fun g17=> ?_) (fun g17=> ?_)
 exact zk 3 R<|zq R R R<|zm R R<|zk 3 R<|zq R R R<|zm R R<|zk 3 R<|zq R R R<|zn<|Aq (by kernel_rfl) R<|zr<|za R R<|zn<|zt<|z1 R R (rI (Pit.err_no fun h=>by obtain ⟨⟨h1,h2,h3,h4,h5,h6⟩,_⟩:=h;omega))
 refine zp (Aa R R Mk)<|zp (Ab R R Ai R R)<|zp (Bb R R R)<|zq R R R<|zm R R<|?_
 refine XL.dec 22 R (fun g22=> ?_) (fun g22=> ?_)
 exact zk 3 R<|zq R R R<|zm R R<|zk 3 R<|zq R R R<|zn<|Aq (by kernel_rfl) R<|zr<|za R R<|zn<|zt<|z1 R R (rI (Pit.err_no fun h=>by obtain ⟨⟨h1,h2,h3,h4,h5,h6⟩,_⟩:=h;omega))
 refine zp (Aa R R Mj)<|zp (Ab R R Ai R R)<|zp (As R R R)<|zq R R R<|zm R R<|?_
 refine XL.dec 27 R (fun g27=> ?_) (fun g27=> ?_)
 exact zk 3 R<|zq R R R<|zn<|Aq (by kernel_rfl) R<|zr<|za R R<|zn<|zt<|z1 R R (rI (Pit.err_no fun h=>by obtain ⟨⟨h1,h2,h3,h4,h5,h6⟩,_⟩:=h;omega))
 refine zp (Aa R R Mj)<|zp (Ab R R Ai R R)<|zp (Bb R R R)<|zq R R R<|zn<|?_
 refine zd R (fun c31=> ?_) (fun c31=> ?_)
 exact zr<|za R R<|zn<|zt<|z1 R R (rI (Pit.err_no fun h=>by obtain ⟨⟨h1,h2,h3,h4,h5,h6⟩,_⟩:=h;omega))
 refine zi<|zs<|zs<|?_
 have hin:p.inR:=by refine Pit.inR_mk ?_ ?_ ?_ ?_ ?_ ?_<;>assumption
 refine Af (by kernel_rfl)<|zp (Ae (s':= .d (.agg (Pit.c p))) (Ac (Ad R R E0 R lb)) (by kernel_rfl))<|XL.call1 R R (Wi _ (by assumption)) R<|za R R<|znr<|zm R R<|zp (As R R R)<|zm R R<|?_
 refine XL.dec 36 R (fun g36=> ?_) (fun g36=> ?_)
 exact zk 2 R<|zq R R R<|zn<|Aq (by kernel_rfl) R<|zr<|za R R<|zn<|zt<|z1 R R (rI (Pit.err_no fun h=>by obtain ⟨_,h1,h2⟩:=h;omega))
 refine zm R R<|zp (Bb R R R)<|zq R R R<|zn<|?_
 refine zd R (fun c39=> ?_) (fun c39=> ?_)
 exact zr<|za R R<|zn<|zt<|z1 R R (rI (Pit.err_no fun h=>by obtain ⟨_,h1,h2⟩:=h;omega))
 exact zi<|zr<|za R R<|zn<|zt<|z1 R R (rI (Pit.err_ok ⟨hin,by omega,by omega⟩))
theorem Pit.err_num {p:Pit} (h:p.err≠0):0=p.num∧p.err=18:=by unfold Pit.err at h ⊢;unfold Pit.num;split<;>simp_all
theorem Pit.of_err {p:Pit} (h:¬p.err≠0):p.good:=by unfold Pit.err at h;split at h<;>simp_all
theorem Pit.num_ok {p:Pit} (h:p.good):p.num=p.n:=by rw [Pit.num,if_pos h]
theorem Pit.num_bd (p:Pit):0≤p.num∧p.num≤127:=by
 unfold Pit.num
 split
 ·rename_i h;exact h.2
 ·omega
theorem Akp (p:Pit):XC Tryz.prog 178 [.agg (Pit.c p)] (fun r=>r= .tup [dI p.num,dI p.err]):=by
 refine Ao Adf Tryz.func178 R R lb<|zr<|XL.step R (At 1 (l:= [.d (dI p.step), .d (dI p.alter), .d (dI p.oct)]) R R (by kernel_rfl))<|za R R<|za R R<|zn<|zs<|zr<|zp (Ae (s':= .d (.agg (Pit.c p))) (Ac (Ad R R E0 R lb)) (by kernel_rfl))<|XL.call1 R R (Am9 _) R<|za R R<|znr<|zm R R<|zp (Be R R R)<|?_
 refine zn<|?_
 refine zd R (fun c8=> ?_) (fun c8=> ?_)
 refine zr<|zm R R<|za R R<|za R R<|zn<|zt<|?_
 exact Bh R (RV.tmp R R) (RV.tmp R R) (r2 (rI (Pit.err_num c8).1) R)
 refine zi<|zs<|?_
 have hg:=Pit.of_err c8
 have hin:=hg.1
 refine Af (by kernel_rfl)<|zp (Ae (s':= .d (.agg (Pit.c p))) (Ac (Ad R R E0 R lb)) (by kernel_rfl))<|XL.call1 R R (Wi _ (by assumption)) R<|za R R<|za R R<|zn<|zt<|?_
 exact Bh R (RV.tmp R R) (RV.tmp R R) (r2 (rI (Pit.num_ok hg).symm) (rI (Pit.err_ok hg)))
theorem Rn (p:Pit):XC Tryz.prog 153 [.agg (Pit.c p)] (fun r=>r= .tup [dI p.num,dI p.err]):=by
 have hb:=p.num_bd
 refine Ao Ad2 Tryz.func153 R R lb<|zr<|XL.step R (At 1 (l:= [.d (dI p.step), .d (dI p.alter), .d (dI p.oct)]) R R (by kernel_rfl))<|za R R<|za R R<|znr<|zp (Ae (s':= .d (.agg (Pit.c p))) (Ac (Ad R R E0 R lb)) (by kernel_rfl))<|XL.call1 R R (Akp _) R<|zm R R<|zp (A6 R R R)<|zp (A6 R R R)<|za R R<|za R R<|zn<|?_
 refine zs<|zr<|zm R R<|zp (Be R R R)<|zm R R<|?_
 refine XL.dec 13 R (fun g13=> ?_) (fun g13=> ?_)
 refine zk 2 R<|zq R R R<|zm R R<|zk 2 R<|zq R R R<|zn<|Aq (by kernel_rfl) R<|zr<|za R R<|za R R<|zn<|zt<|?_
 exact Bh R (RV.tmp R R) (RV.tmp R R) (r2 (rI (Pit.err_num g13).1) (rI (Pit.err_num g13).2.symm))
 refine zm R R<|zp (As R R R)<|zq R R R<|zm R R<|?_
 refine XL.dec 17 R (fun g17=> ?_) (fun g17=> ?_)
 refine zk 2 R<|zq R R R<|zn<|Aq (by kernel_rfl) R<|zr<|za R R<|za R R<|zn<|zt<|?_
 exact Bh R (RV.tmp R R) (RV.tmp R R) (by exfalso;omega)
 refine zm R R<|zp (Bb R R R)<|zq R R R<|zn<|?_
 refine zd R (fun c20=> ?_) (fun c20=> ?_)
 refine zr<|za R R<|za R R<|zn<|zt<|?_
 exact Bh R (RV.tmp R R) (RV.tmp R R) (by exfalso;omega)
 refine zi<|zr<|zm R R<|za R R<|za R R<|zn<|zt<|?_
 exact Bh R (RV.tmp R R) (RV.tmp R R) (r2 R (rI (Pit.err_ok (Pit.of_err g13))))
end Go.Proofs.YtcihalbakenleaaGreat
namespace Go.Proofs.YtcihalbakenleaaGreat
open Go.RowKit
theorem Gt {P:Program} {w:World} (d t:Nat) (h:P.underlying t=some (.int .i64)) (a b:Int):(Op.equalIn (d+1) t (.int .i64 a) (.int .i64 b)).run P w= .ok (decide (a=b)) w:=by
 rw [run_equalIn_int w d t .i64 .i64 a b h];by_cases e:a=b<;>simp [e]
theorem Acs {P:Program} {w:World} (d t:Nat) (h:P.underlying t=some .bool) (a b:Bool):(Op.equalIn (d+1) t (.bool a) (.bool b)).run P w= .ok (decide (a=b)) w:=by
 rw [run_equalIn_bool' w d t a b h];cases a<;>cases b<;>rfl
theorem At3 {P:Program} {w:World} (d t:Nat) (h:P.underlying t=some .string) (a b:ByteArray):(Op.equalIn (d+1) t (.string a) (.string b)).run P w= .ok (decide (a.toList=b.toList)) w:=by
 rw [run_equalIn_string w d t a b h];by_cases e:a.toList=b.toList<;>simp [e]
theorem Ik {P:Program} {t:TypeId} {fs:Array Field} (h:P.underlying t=some (.struct fs)):P.fieldsOf t=fs:=by unfold Program.fieldsOf;rw [h]
theorem Dy {P:Program} {t:TypeId} (hs:scB P t=true) (w:World) {cs:Array Value} {off:Nat} {v:Value} (h:cs[off]? =some v):(part t cs off).run P w= .ok v w:=by
 unfold part;simp only [Sem.run_bind,scB.isAgg hs,Result.andThen_ok,Bool.false_eq_true,if_false,h,Sem.run_pure]
theorem Aab {P:Program} {t n:Nat} (hs:aggB P t n=true) (w:World) {cs ds:Array Value} {off:Nat} (h:cs.extract off (off+n)=ds):(part t cs off).run P w= .ok (.agg ds) w:=by
 unfold part;simp only [Sem.run_bind,(aggB.isAgg hs w).1,Result.andThen_ok,if_true,(aggB.isAgg hs w).2,h,Sem.run_pure]
section
variable {P:Program} {w:World} {d:Nat} {xs ys:Array Value} {f:Field} {fs:List Field} {a b:Value} {p q:Prop} [Decidable p] [Decidable q]
theorem Hg (hn : f.name ≠ "_") (ha : (part f.type xs f.offset).run P w = .ok a w) (hb : (part f.type ys f.offset).run P w = .ok b w) (he : (Op.equalIn d f.type a b).run P w = .ok (decide p) w) (hr : (Op.eqFields d xs ys fs).run P w = .ok (decide q) w) :
  (Op.eqFields d xs ys (f::fs)).run P w= .ok (decide (p∧q)) w:=by
 unfold Op.eqFields
 rw [if_pos hn]
 simp only [Sem.run_bind,ha,hb,he,Result.andThen_ok,Sem.run_ite,hr,Sem.run_pure]
 by_cases h:p<;>simp [h]
theorem Mo (hn : f.name ≠ "_") (ha : (part f.type xs f.offset).run P w = .ok a w) (hb : (part f.type ys f.offset).run P w = .ok b w) (he : (Op.equalIn d f.type a b).run P w = .ok (decide p) w) :
  (Op.eqFields d xs ys [f]).run P w= .ok (decide p) w:=by
 unfold Op.eqFields
 rw [if_pos hn]
 simp only [Sem.run_bind,ha,hb,he,Result.andThen_ok,Sem.run_ite,Op.eqFields,Sem.run_pure]
 by_cases h:p<;>simp [h]
end
theorem Ajh (d:Nat) (w:World) (a0:Int) (a1:Int) (b0:Int) (b1:Int):(Op.equalIn (d+2) 54 (.agg #[.int .i64 a0, .int .i64 a1]) (.agg #[.int .i64 b0, .int .i64 b1])).run Tryz.prog w= .ok (decide (a0=b0∧a1=b1)) w:=by
 rw [show d+2=(d+1)+1 from rfl,run_equalIn_struct w (d+1) 54 _ _ (by kernel_rfl) (by kernel_rfl),Ik Tryz.underlying54]
 exact Hg (by decide) (Dy Ai w rfl) (Dy Ai w rfl) (Gt (d+0) 3 Tryz.underlying3 _ _) (Mo (by decide) (Dy Ai w rfl) (Dy Ai w rfl) (Gt (d+0) 3 Tryz.underlying3 _ _))
theorem Apx {t':TypeId} {o:Oper} {e:Operand→S} {h:Xh} {x y:Operand} {a0:Int} {a1:Int} {b0:Int} {b1:Int} (ho:o.op= .binOp .eql 54 x y t') (hx:e x= .d (.agg [.v (.int .i64 a0), .v (.int .i64 a1)])) (hy:e y= .d (.agg [.v (.int .i64 b0), .v (.int .i64 b1)])):By Tryz.prog o e h (.d (.v (.bool (decide (a0=b0∧a1=b1))))):=by
 refine Gn ho hx hy rfl rfl (by kernel_rfl) fun w=> ?_
 refine (run_eql_struct w 54 #[.int .i64 a0, .int .i64 a1] #[.int .i64 b0, .int .i64 b1]).trans ?_
 have hq:=Ajh 9998 w a0 a1 b0 b1
 simp only [Nat.reduceAdd] at hq
 rw [hq]
 simp only [Result.andThen_ok]
theorem Abu {t':TypeId} {o:Oper} {e:Operand→S} {h:Xh} {x y:Operand} {a0:Int} {a1:Int} {b0:Int} {b1:Int} (ho:o.op= .binOp .neq 54 x y t') (hx:e x= .d (.agg [.v (.int .i64 a0), .v (.int .i64 a1)])) (hy:e y= .d (.agg [.v (.int .i64 b0), .v (.int .i64 b1)])):By Tryz.prog o e h (.d (.v (.bool (decide (¬(a0=b0∧a1=b1)))))):=by
 refine Gn ho hx hy rfl rfl (by kernel_rfl) fun w=> ?_
 refine (run_neq_struct w 54 #[.int .i64 a0, .int .i64 a1] #[.int .i64 b0, .int .i64 b1]).trans ?_
 have hq:=Ajh 9998 w a0 a1 b0 b1
 simp only [Nat.reduceAdd] at hq
 rw [hq]
 simp only [Result.andThen_ok,decide_not]
theorem Ajg (d:Nat) (w:World) (a0:Int) (a1:Int) (b0:Int) (b1:Int):(Op.equalIn (d+2) 56 (.agg #[.int .i64 a0, .int .i64 a1]) (.agg #[.int .i64 b0, .int .i64 b1])).run Tryz.prog w= .ok (decide (a0=b0∧a1=b1)) w:=by
 rw [show d+2=(d+1)+1 from rfl,run_equalIn_struct w (d+1) 56 _ _ (by kernel_rfl) (by kernel_rfl),Ik Tryz.underlying56]
 exact Hg (by decide) (Dy Ai w rfl) (Dy Ai w rfl) (Gt (d+0) 3 Tryz.underlying3 _ _) (Mo (by decide) (Dy Ai w rfl) (Dy Ai w rfl) (Gt (d+0) 3 Tryz.underlying3 _ _))
theorem Q7 {t':TypeId} {o:Oper} {e:Operand→S} {h:Xh} {x y:Operand} {a0:Int} {a1:Int} {b0:Int} {b1:Int} (ho:o.op= .binOp .eql 56 x y t') (hx:e x= .d (.agg [.v (.int .i64 a0), .v (.int .i64 a1)])) (hy:e y= .d (.agg [.v (.int .i64 b0), .v (.int .i64 b1)])):By Tryz.prog o e h (.d (.v (.bool (decide (a0=b0∧a1=b1))))):=by
 refine Gn ho hx hy rfl rfl (by kernel_rfl) fun w=> ?_
 refine (run_eql_struct w 56 #[.int .i64 a0, .int .i64 a1] #[.int .i64 b0, .int .i64 b1]).trans ?_
 have hq:=Ajg 9998 w a0 a1 b0 b1
 simp only [Nat.reduceAdd] at hq
 rw [hq]
 simp only [Result.andThen_ok]
theorem Apt {t':TypeId} {o:Oper} {e:Operand→S} {h:Xh} {x y:Operand} {a0:Int} {a1:Int} {b0:Int} {b1:Int} (ho:o.op= .binOp .neq 56 x y t') (hx:e x= .d (.agg [.v (.int .i64 a0), .v (.int .i64 a1)])) (hy:e y= .d (.agg [.v (.int .i64 b0), .v (.int .i64 b1)])):By Tryz.prog o e h (.d (.v (.bool (decide (¬(a0=b0∧a1=b1)))))):=by
 refine Gn ho hx hy rfl rfl (by kernel_rfl) fun w=> ?_
 refine (run_neq_struct w 56 #[.int .i64 a0, .int .i64 a1] #[.int .i64 b0, .int .i64 b1]).trans ?_
 have hq:=Ajg 9998 w a0 a1 b0 b1
 simp only [Nat.reduceAdd] at hq
 rw [hq]
 simp only [Result.andThen_ok,decide_not]
theorem Ts (d:Nat) (w:World) (a0:Int) (a1:Int) (a2:Int) (b0:Int) (b1:Int) (b2:Int):(Op.equalIn (d+2) 89 (.agg #[.int .i64 a0, .int .i64 a1, .int .i64 a2]) (.agg #[.int .i64 b0, .int .i64 b1, .int .i64 b2])).run Tryz.prog w= .ok (decide (a0=b0∧a1=b1∧a2=b2)) w:=by
 rw [show d+2=(d+1)+1 from rfl,run_equalIn_struct w (d+1) 89 _ _ (by kernel_rfl) (by kernel_rfl),Ik Tryz.underlying89]
 exact Hg (by decide) (Dy Ai w rfl) (Dy Ai w rfl) (Gt (d+0) 3 Tryz.underlying3 _ _) (Hg (by decide) (Dy Ai w rfl) (Dy Ai w rfl) (Gt (d+0) 3 Tryz.underlying3 _ _) (Mo (by decide) (Dy Ai w rfl) (Dy Ai w rfl) (Gt (d+0) 3 Tryz.underlying3 _ _)))
theorem Abv {t':TypeId} {o:Oper} {e:Operand→S} {h:Xh} {x y:Operand} {a0:Int} {a1:Int} {a2:Int} {b0:Int} {b1:Int} {b2:Int} (ho:o.op= .binOp .eql 89 x y t') (hx:e x= .d (.agg [.v (.int .i64 a0), .v (.int .i64 a1), .v (.int .i64 a2)])) (hy:e y= .d (.agg [.v (.int .i64 b0), .v (.int .i64 b1), .v (.int .i64 b2)])):By Tryz.prog o e h (.d (.v (.bool (decide (a0=b0∧a1=b1∧a2=b2))))):=by
 refine Gn ho hx hy rfl rfl (by kernel_rfl) fun w=> ?_
 refine (run_eql_struct w 89 #[.int .i64 a0, .int .i64 a1, .int .i64 a2] #[.int .i64 b0, .int .i64 b1, .int .i64 b2]).trans ?_
 have hq:=Ts 9998 w a0 a1 a2 b0 b1 b2
 simp only [Nat.reduceAdd] at hq
 rw [hq]
 simp only [Result.andThen_ok]
theorem Aps {t':TypeId} {o:Oper} {e:Operand→S} {h:Xh} {x y:Operand} {a0:Int} {a1:Int} {a2:Int} {b0:Int} {b1:Int} {b2:Int} (ho:o.op= .binOp .neq 89 x y t') (hx:e x= .d (.agg [.v (.int .i64 a0), .v (.int .i64 a1), .v (.int .i64 a2)])) (hy:e y= .d (.agg [.v (.int .i64 b0), .v (.int .i64 b1), .v (.int .i64 b2)])):By Tryz.prog o e h (.d (.v (.bool (decide (¬(a0=b0∧a1=b1∧a2=b2)))))):=by
 refine Gn ho hx hy rfl rfl (by kernel_rfl) fun w=> ?_
 refine (run_neq_struct w 89 #[.int .i64 a0, .int .i64 a1, .int .i64 a2] #[.int .i64 b0, .int .i64 b1, .int .i64 b2]).trans ?_
 have hq:=Ts 9998 w a0 a1 a2 b0 b1 b2
 simp only [Nat.reduceAdd] at hq
 rw [hq]
 simp only [Result.andThen_ok,decide_not]
theorem At2 (d:Nat) (w:World) (a0:Int) (a1:Int) (a2:Int) (a3:Bool) (a4:Int) (b0:Int) (b1:Int) (b2:Int) (b3:Bool) (b4:Int):(Op.equalIn (d+3) 91 (.agg #[.int .i64 a0, .int .i64 a1, .int .i64 a2, .bool a3, .int .i64 a4]) (.agg #[.int .i64 b0, .int .i64 b1, .int .i64 b2, .bool b3, .int .i64 b4])).run Tryz.prog w= .ok (decide ((a0=b0∧a1=b1∧a2=b2)∧a3=b3∧a4=b4)) w:=by
 rw [show d+3=(d+2)+1 from rfl,run_equalIn_struct w (d+2) 91 _ _ (by kernel_rfl) (by kernel_rfl),Ik Tryz.underlying91]
 exact Hg (by decide) (Aab E0 w rfl) (Aab E0 w rfl) (Ts (d) w _ _ _ _ _ _) (Hg (by decide) (Dy Kv w rfl) (Dy Kv w rfl) (Acs (d+1) 4 Tryz.underlying4 _ _) (Mo (by decide) (Dy Ai w rfl) (Dy Ai w rfl) (Gt (d+1) 3 Tryz.underlying3 _ _)))
theorem Abt {t':TypeId} {o:Oper} {e:Operand→S} {h:Xh} {x y:Operand} {a0:Int} {a1:Int} {a2:Int} {a3:Bool} {a4:Int} {b0:Int} {b1:Int} {b2:Int} {b3:Bool} {b4:Int} (ho:o.op= .binOp .neq 91 x y t') (hx:e x= .d (.agg [.v (.int .i64 a0), .v (.int .i64 a1), .v (.int .i64 a2), .v (.bool a3), .v (.int .i64 a4)])) (hy:e y= .d (.agg [.v (.int .i64 b0), .v (.int .i64 b1), .v (.int .i64 b2), .v (.bool b3), .v (.int .i64 b4)])):By Tryz.prog o e h (.d (.v (.bool (decide (¬((a0=b0∧a1=b1∧a2=b2)∧a3=b3∧a4=b4)))))):=by
 refine Gn ho hx hy rfl rfl (by kernel_rfl) fun w=> ?_
 refine (run_neq_struct w 91 #[.int .i64 a0, .int .i64 a1, .int .i64 a2, .bool a3, .int .i64 a4] #[.int .i64 b0, .int .i64 b1, .int .i64 b2, .bool b3, .int .i64 b4]).trans ?_
 have hq:=At2 9997 w a0 a1 a2 a3 a4 b0 b1 b2 b3 b4
 simp only [Nat.reduceAdd] at hq
 rw [hq]
 simp only [Result.andThen_ok,decide_not]
theorem Aqy (d:Nat) (w:World) (a0:Int) (a1:Int) (a2:Int) (a3:Int) (b0:Int) (b1:Int) (b2:Int) (b3:Int):(Op.equalIn (d+2) 102 (.agg #[.int .i64 a0, .int .i64 a1, .int .i64 a2, .int .i64 a3]) (.agg #[.int .i64 b0, .int .i64 b1, .int .i64 b2, .int .i64 b3])).run Tryz.prog w= .ok (decide (a0=b0∧a1=b1∧a2=b2∧a3=b3)) w:=by
 rw [show d+2=(d+1)+1 from rfl,run_equalIn_struct w (d+1) 102 _ _ (by kernel_rfl) (by kernel_rfl),Ik Tryz.underlying102]
 exact Hg (by decide) (Dy Ai w rfl) (Dy Ai w rfl) (Gt (d+0) 3 Tryz.underlying3 _ _) (Hg (by decide) (Dy Ai w rfl) (Dy Ai w rfl) (Gt (d+0) 3 Tryz.underlying3 _ _) (Hg (by decide) (Dy Ai w rfl) (Dy Ai w rfl) (Gt (d+0) 3 Tryz.underlying3 _ _) (Mo (by decide) (Dy Ai w rfl) (Dy Ai w rfl) (Gt (d+0) 3 Tryz.underlying3 _ _))))
theorem Ana {t':TypeId} {o:Oper} {e:Operand→S} {h:Xh} {x y:Operand} {a0:Int} {a1:Int} {a2:Int} {a3:Int} {b0:Int} {b1:Int} {b2:Int} {b3:Int} (ho:o.op= .binOp .neq 102 x y t') (hx:e x= .d (.agg [.v (.int .i64 a0), .v (.int .i64 a1), .v (.int .i64 a2), .v (.int .i64 a3)])) (hy:e y= .d (.agg [.v (.int .i64 b0), .v (.int .i64 b1), .v (.int .i64 b2), .v (.int .i64 b3)])):By Tryz.prog o e h (.d (.v (.bool (decide (¬(a0=b0∧a1=b1∧a2=b2∧a3=b3)))))):=by
 refine Gn ho hx hy rfl rfl (by kernel_rfl) fun w=> ?_
 refine (run_neq_struct w 102 #[.int .i64 a0, .int .i64 a1, .int .i64 a2, .int .i64 a3] #[.int .i64 b0, .int .i64 b1, .int .i64 b2, .int .i64 b3]).trans ?_
 have hq:=Aqy 9998 w a0 a1 a2 a3 b0 b1 b2 b3
 simp only [Nat.reduceAdd] at hq
 rw [hq]
 simp only [Result.andThen_ok,decide_not]
theorem Aqx (d:Nat) (w:World) (a0:Int) (a1:Int) (a2:Int) (a3:Int) (a4:Bool) (b0:Int) (b1:Int) (b2:Int) (b3:Int) (b4:Bool):(Op.equalIn (d+3) 138 (.agg #[.int .i64 a0, .int .i64 a1, .int .i64 a2, .int .i64 a3, .bool a4]) (.agg #[.int .i64 b0, .int .i64 b1, .int .i64 b2, .int .i64 b3, .bool b4])).run Tryz.prog w= .ok (decide ((a0=b0∧a1=b1∧a2=b2)∧a3=b3∧a4=b4)) w:=by
 rw [show d+3=(d+2)+1 from rfl,run_equalIn_struct w (d+2) 138 _ _ (by kernel_rfl) (by kernel_rfl),Ik Tryz.underlying138]
 exact Hg (by decide) (Aab E0 w rfl) (Aab E0 w rfl) (Ts (d) w _ _ _ _ _ _) (Hg (by decide) (Dy Ai w rfl) (Dy Ai w rfl) (Gt (d+1) 3 Tryz.underlying3 _ _) (Mo (by decide) (Dy Kv w rfl) (Dy Kv w rfl) (Acs (d+1) 4 Tryz.underlying4 _ _)))
theorem Y0 {t':TypeId} {o:Oper} {e:Operand→S} {h:Xh} {x y:Operand} {a0:Int} {a1:Int} {a2:Int} {a3:Int} {a4:Bool} {b0:Int} {b1:Int} {b2:Int} {b3:Int} {b4:Bool} (ho:o.op= .binOp .neq 138 x y t') (hx:e x= .d (.agg [.v (.int .i64 a0), .v (.int .i64 a1), .v (.int .i64 a2), .v (.int .i64 a3), .v (.bool a4)])) (hy:e y= .d (.agg [.v (.int .i64 b0), .v (.int .i64 b1), .v (.int .i64 b2), .v (.int .i64 b3), .v (.bool b4)])):By Tryz.prog o e h (.d (.v (.bool (decide (¬((a0=b0∧a1=b1∧a2=b2)∧a3=b3∧a4=b4)))))):=by
 refine Gn ho hx hy rfl rfl (by kernel_rfl) fun w=> ?_
 refine (run_neq_struct w 138 #[.int .i64 a0, .int .i64 a1, .int .i64 a2, .int .i64 a3, .bool a4] #[.int .i64 b0, .int .i64 b1, .int .i64 b2, .int .i64 b3, .bool b4]).trans ?_
 have hq:=Aqx 9997 w a0 a1 a2 a3 a4 b0 b1 b2 b3 b4
 simp only [Nat.reduceAdd] at hq
 rw [hq]
 simp only [Result.andThen_ok,decide_not]
theorem Acr (d:Nat) (w:World) (a0:ByteArray) (a1:Int) (b0:ByteArray) (b1:Int):(Op.equalIn (d+2) 140 (.agg #[.string a0, .int .i64 a1]) (.agg #[.string b0, .int .i64 b1])).run Tryz.prog w= .ok (decide (a0.toList=b0.toList∧a1=b1)) w:=by
 rw [show d+2=(d+1)+1 from rfl,run_equalIn_struct w (d+1) 140 _ _ (by kernel_rfl) (by kernel_rfl),Ik Tryz.underlying140]
 exact Hg (by decide) (Dy L7 w rfl) (Dy L7 w rfl) (At3 (d+0) 9 Tryz.underlying9 _ _) (Mo (by decide) (Dy Ai w rfl) (Dy Ai w rfl) (Gt (d+0) 3 Tryz.underlying3 _ _))
theorem Anc {t':TypeId} {o:Oper} {e:Operand→S} {h:Xh} {x y:Operand} {a0:ByteArray} {a1:Int} {b0:ByteArray} {b1:Int} (ho:o.op= .binOp .eql 140 x y t') (hx:e x= .d (.agg [.v (.string a0), .v (.int .i64 a1)])) (hy:e y= .d (.agg [.v (.string b0), .v (.int .i64 b1)])):By Tryz.prog o e h (.d (.v (.bool (decide (a0.toList=b0.toList∧a1=b1))))):=by
 refine Gn ho hx hy rfl rfl (by kernel_rfl) fun w=> ?_
 refine (run_eql_struct w 140 #[.string a0, .int .i64 a1] #[.string b0, .int .i64 b1]).trans ?_
 have hq:=Acr 9998 w a0 a1 b0 b1
 simp only [Nat.reduceAdd] at hq
 rw [hq]
 simp only [Result.andThen_ok]
theorem Yz {t':TypeId} {o:Oper} {e:Operand→S} {h:Xh} {x y:Operand} {a0:ByteArray} {a1:Int} {b0:ByteArray} {b1:Int} (ho:o.op= .binOp .neq 140 x y t') (hx:e x= .d (.agg [.v (.string a0), .v (.int .i64 a1)])) (hy:e y= .d (.agg [.v (.string b0), .v (.int .i64 b1)])):By Tryz.prog o e h (.d (.v (.bool (decide (¬(a0.toList=b0.toList∧a1=b1)))))):=by
 refine Gn ho hx hy rfl rfl (by kernel_rfl) fun w=> ?_
 refine (run_neq_struct w 140 #[.string a0, .int .i64 a1] #[.string b0, .int .i64 b1]).trans ?_
 have hq:=Acr 9998 w a0 a1 b0 b1
 simp only [Nat.reduceAdd] at hq
 rw [hq]
 simp only [Result.andThen_ok,decide_not]
end Go.Proofs.YtcihalbakenleaaGreat
namespace Go.Proofs.YtcihalbakenleaaGreat
open Go.RowKit
def B3 (n m:Int):Int:=if n<0∨m<n then 2 else 0
theorem Vk {n m:Int} (h:n<0∨m<n):2=B3 n m:=by rw [B3,if_pos h]
theorem Aju {n m:Int} (h:¬n<0) (h':¬m<n):0=B3 n m:=by rw [B3,if_neg (by omega)]
theorem De (n m:Int):XC Tryz.prog 116 [.v (.int .i64 n), .v (.int .i64 m)] (fun r=>r=dI (B3 n m)):=by
 refine Ao Ae2 Tryz.func116 R R lb<|zr<|za R R<|zn<|zs<|zr<|zm R R<|zp (As R R R)<|zm R R<|?_
 refine XL.dec 7 R (fun g7=> ?_) (fun g7=> ?_)
 exact zk 3 R<|zq R R R<|zn<|Aq (by kernel_rfl) R<|zr<|za R R<|zn<|zt<|z1 R R (rI (Vk (by omega)))
 refine zm R R<|zm R R<|zp (Bb R R R)<|zq R R R<|zn<|?_
 refine zd R (fun c11=> ?_) (fun c11=> ?_)
 exact zr<|za R R<|zn<|zt<|z1 R R (rI (Vk (by omega)))
 exact zi<|zr<|za R R<|zn<|zt<|z1 R R (rI (Aju g7 c11))
def Dc:List Int→Int
 | []=>0
 |e::l=>if e≠0 then e else Dc l
theorem Af5 {l:List Int} {k:Nat} {x:Int} (h:l[k]? =some x) (hx:¬x≠0):Dc (l.drop k)=Dc (l.drop (k+1)):=by rw [C2 h,Dc,if_neg hx]
theorem Ala {l:List Int} {k:Nat} {x:Int} (h:l[k]? =some x) (hx:x≠0):Dc (l.drop k)=x:=by rw [C2 h,Dc,if_pos hx]
theorem Alb {l:List Int} {k:Nat} (h:k=l.length):Dc (l.drop k)=0:=by rw [h,List.drop_length];rfl
theorem Kg (l:List Int):XC Tryz.prog 115 [.sl 1 (B8 l)] (fun r=>r=dI (Dc l)):=by
 refine Ao Ae3 Tryz.func115 R R lb<|zr<|za R R<|zn<|zs<|zr<|zm R R<|XL.len R R R Tryz.underlying180 fun hl6=>zm R R<|zn<|Ah<|?_
 refine Ay (α:=Nat) (fun k=>k≤l.length∧Dc (l.drop k)=Dc l) (fun k=>mkF [(5, .d (.sl 1 (B8 l))),(6, .d (dI l.length)),(7, .d (dI k))]) (fun k=>mkH []) (fun k=>l.length - k) (0) (⟨Nat.zero_le _,by rw [List.drop_zero]⟩) ?_ ?_ ?_
 exact fz ⟨sr,sr,sr,trivial⟩
 exact HSub.nil
 intro k hk0
 obtain ⟨hk,hf⟩:=hk0
 refine zr<|zp (As R R R)<|zn<|zs<|?_
 refine zd R (fun c8=> ?_) (fun c8=> ?_)
 have hk0a:k<l.length:=by omega
 obtain ⟨x0,hx0⟩:=Au hk0a
 refine zi<|zs<|Ah<|zr<|zp (Am R R R Avx hx0)<|zp (Az R R Awi)<|za R R<|znr<|zm R R<|zp (Be R R R)<|zn<|?_
 refine zd R (fun c12=> ?_) (fun c12=> ?_)
 exact zr<|zm R R<|za R R<|zn<|zt<|z1 R R (rI (by rw [←hf,Ala hx0 c12]))
 refine zi<|Af (by kernel_rfl)<|zp (Aj R R R (by omega) (by omega))<|zm R R<|zn<|?_
 exact Ak (k+1) (⟨by omega,by rw [←Af5 hx0 c12];exact hf⟩) (by omega) (fz ⟨sr,sr,sr,trivial⟩) (HSub.nil)
 have hk0b:k=l.length:=by omega
 exact Ap<|zr<|za R R<|zn<|zt<|z1 R R (rI (by rw [←hf,Alb hk0b]))
def Im (h:Hd):Int:=Dc [h.p.err,B3 h.sh 2]
theorem Ar5 (h:Hd):XC Tryz.prog 152 [.agg (Hd.c h)] (fun r=>r=dI (Im h)):=by
 refine Ao Ad3 Tryz.func152 R R lb<|zr<|XL.step R (At 1 (l:= [.d (dI h.p.step), .d (dI h.p.alter), .d (dI h.p.oct), .d (dB h.tied), .d (dI h.sh)]) R R (by kernel_rfl))<|za R R<|znr<|zp (Aa R R Gp)<|zp (Ae (s':= .d (.agg (Pit.c h.p))) (Ac (Ad R R E0 R lb)) (by kernel_rfl))<|XL.call1 R R (Rn _) R<|zm R R<|zp (A6 R R R)<|zp (A6 R R R)<|?_
 exact za R R<|za R R<|znr<|zm R R<|zp (Aa R R Rm)<|zp (Ab R R Ai R R)<|XL.call1 R R (De _ _) R<|XL.step R (Lb (l:=B8 [h.p.err,(B3 h.sh 2)]) R Tryz.underlying180 Ov La (by kernel_rfl) R (by omega) (by omega))<|XL.call1 R R (Kg _) R<|za R R<|zn<|zt<|z1 R R (R)
def Kn (l:List Hd):Int:=match l.getLast? with|some h=>h.p.num|none=> -1
theorem Kc {l:List Hd} {k:Nat} {x:Hd} (h:l[k]? =some x):Kn (l.take (k+1))=x.p.num:=by rw [Bp h,Kn,List.getLast?_concat]
def E4 (last:Int):List Hd→Int
 | []=>0
 |h::t=>if Im h≠0 then Im h else if h.p.num≤last then 25 else E4 h.p.num t
def C0 (l:List Hd):Int:=if l.length=0 then 4 else if 10<l.length then 9 else E4 (-1) l
theorem Ih {l:List Hd} (h1:¬(l.length:Int)=0) (h2:¬10<(l.length:Int)):C0 l=E4 (-1) l:=by rw [C0,if_neg (by omega),if_neg (by omega)]
theorem Acg (l:List Hd):XC Tryz.prog 121 [.sl 5 (l.map Hd.c)] (fun r=>r=dI (C0 l)):=by
 refine Ao Aex Tryz.func121 R R lb<|zr<|za R R<|zn<|zs<|Ah<|zr<|zm R R<|XL.len R R R Tryz.underlying48 fun hl11=>zp (A5 R R R)<|za R R<|zn<|?_
 refine zd R (fun c9=> ?_) (fun c9=> ?_)
 exact zr<|za R R<|zn<|zt<|z1 R R (rI (by rw [C0,if_pos (by omega)]))
 refine zr<|zm R R<|XL.len R R R Tryz.underlying48 fun hl15=>zp (Bb R R R)<|za R R<|zn<|?_
 refine zd R (fun c13=> ?_) (fun c13=> ?_)
 exact zr<|za R R<|zn<|zt<|z1 R R (rI (by rw [C0,if_neg (by omega),if_pos (by omega)]))
 refine zi<|zr<|za R R<|zn<|zs<|zr<|zm R R<|XL.len R R R Tryz.underlying48 fun hl18=>zm R R<|zn<|Ah<|?_
 refine Ay (α:=Nat) (fun k=>k≤l.length∧E4 (Kn (l.take k)) (l.drop k)=E4 (-1) l) (fun k=>mkF [(3, .d (dI (Kn (l.take k)))),(17, .d (.sl 5 (l.map Hd.c))),(18, .d (dI l.length)),(19, .d (dI k))]) (fun k=>mkH []) (fun k=>l.length - k) (0) (⟨Nat.zero_le _,by rw [List.drop_zero];rfl⟩) ?_ ?_ ?_
 exact fz ⟨sr,sr,sr,sr,trivial⟩
 exact HSub.nil
 intro k hk1
 obtain ⟨hk,hf⟩:=hk1
 refine zr<|zp (As R R R)<|zn<|zs<|?_
 refine zd R (fun c20=> ?_) (fun c20=> ?_)
 have hk1a:k<l.length:=by omega
 obtain ⟨x1,hx1⟩:=Au hk1a
 rw [C2 hx1,E4] at hf
 refine zi<|zs<|Ah<|zr<|zp (Am R R R Fl hx1)<|zp (Ae (s':= .d (.agg (Hd.c x1))) (Av R R Kk lb) (by kernel_rfl))<|XL.step R (A0 5 (l:= [.d (dI 0), .d (dI 0), .d (dI 0), .d (dB false), .d (dI 0)]) R H9 (by kernel_rfl))<|?_
 refine XL.step R (Ag (l':= [.d (dI x1.p.step), .d (dI x1.p.alter), .d (dI x1.p.oct), .d (dB x1.tied), .d (dI x1.sh)]) R R R R Nf R lb (by kernel_rfl))<|zn<|zs<|zr<|zp (Ae (s':= .d (.agg (Hd.c x1))) (Ac (Ad R R Kk R lb)) (by kernel_rfl))<|XL.call1 R R (Ar5 _) R<|za R R<|znr<|zm R R<|zp (Be R R R)<|zn<|?_
 refine zd R (fun c26=> ?_) (fun c26=> ?_)
 exact zr<|zm R R<|za R R<|zn<|zt<|z1 R R (rI (by rw [Ih c9 c13, ←hf,if_pos c26]))
 refine zi<|zr<|zp (Aa R R Gp)<|zp (Ae (s':= .d (.agg (Pit.c x1.p))) (Ac (Ad R R E0 R lb)) (by kernel_rfl))<|XL.call1 R R (Rn _) R<|zm R R<|zp (A6 R R R)<|zp (A6 R R R)<|za R R<|za R R<|zn<|zs<|zr<|zm R R<|?_
 refine zm R R<|zp (Fx R R R)<|zn<|?_
 refine zd R (fun c36=> ?_) (fun c36=> ?_)
 exact zr<|za R R<|zn<|zt<|z1 R R (rI (by rw [Ih c9 c13, ←hf,if_neg c26,if_pos c36]))
 refine zi<|Af (by kernel_rfl)<|zm R R<|za R R<|zn<|Af (by kernel_rfl)<|zp (Aj R R R (by omega) (by omega))<|zm R R<|zn<|?_
 exact Ak (k+1) (⟨by omega,by rw [if_neg c26,if_neg c36] at hf;rw [Kc hx1];exact hf⟩) (by omega) (fz ⟨.same (sI (Kc hx1).symm),sr,sr,sr,trivial⟩) (HSub.nil)
 have hk1b:k=l.length:=by omega
 exact Ap<|zr<|za R R<|zn<|zt<|z1 R R (rI (by rw [Ih c9 c13, ←hf,hk1b,List.drop_length];rfl))
def Jk:List Gr→Int
 | []=>0
 |g::t=>if g.p.err≠0 then g.p.err else if g.log<1∨6<g.log then 2 else Jk t
def Fq (l:List Gr):Int:=if 8<l.length then 9 else Jk l
theorem H1 {l:List Gr} (h2:¬8<(l.length:Int)):Fq l=Jk l:=by rw [Fq,if_neg (by omega)]
theorem Zo (l:List Gr):XC Tryz.prog 122 [.sl 5 (l.map Gr.c)] (fun r=>r=dI (Fq l)):=by
 refine Ao Aew Tryz.func122 R R lb<|zr<|za R R<|zn<|zs<|zr<|zm R R<|XL.len R R R Tryz.underlying57 fun hl8=>zp (Bb R R R)<|zn<|?_
 refine zd R (fun c9=> ?_) (fun c9=> ?_)
 exact zr<|za R R<|zn<|zt<|z1 R R (rI (by rw [Fq,if_pos (by omega)]))
 refine zi<|zs<|zr<|zm R R<|XL.len R R R Tryz.underlying57 fun hl11=>zm R R<|zn<|Ah<|?_
 refine Ay (α:=Nat) (fun k=>k≤l.length∧Jk (l.drop k)=Jk l) (fun k=>mkF [(10, .d (.sl 5 (l.map Gr.c))),(11, .d (dI l.length)),(12, .d (dI k))]) (fun k=>mkH []) (fun k=>l.length - k) (0) (⟨Nat.zero_le _,by rw [List.drop_zero]⟩) ?_ ?_ ?_
 exact fz ⟨sr,sr,sr,trivial⟩
 exact HSub.nil
 intro k hk0
 obtain ⟨hk,hf⟩:=hk0
 refine zr<|zp (As R R R)<|zn<|zs<|?_
 refine zd R (fun c13=> ?_) (fun c13=> ?_)
 have hk0a:k<l.length:=by omega
 obtain ⟨x0,hx0⟩:=Au hk0a
 rw [C2 hx0,Jk] at hf
 refine zi<|zs<|Ah<|zr<|zp (Am R R R Ro hx0)<|zp (Ae (s':= .d (.agg (Gr.c x0))) (Av R R Ql lb) (by kernel_rfl))<|XL.step R (A0 4 (l:= [.d (dI 0), .d (dI 0), .d (dI 0), .d (dI 0), .d (dB false)]) R Aao (by kernel_rfl))<|?_
 refine XL.step R (Ag (l':= [.d (dI x0.p.step), .d (dI x0.p.alter), .d (dI x0.p.oct), .d (dI x0.log), .d (dB x0.slash)]) R R R R Amb R lb (by kernel_rfl))<|zn<|zs<|zr<|zp (Aa R R Zp)<|zp (Ae (s':= .d (.agg (Pit.c x0.p))) (Ac (Ad R R E0 R lb)) (by kernel_rfl))<|XL.call1 R R (Rn _) R<|zm R R<|zp (A6 R R R)<|zp (A6 R R R)<|za R R<|za R R<|znr<|?_
 refine zm R R<|zp (Be R R R)<|zn<|?_
 refine zd R (fun c23=> ?_) (fun c23=> ?_)
 exact zr<|zm R R<|za R R<|zn<|zt<|z1 R R (rI (by rw [H1 c9, ←hf,if_pos c23]))
 refine zi<|zr<|zp (Aa R R Sr)<|zp (Ab R R Ai R R)<|zp (As R R R)<|zm R R<|?_
 refine XL.dec 28 R (fun g28=> ?_) (fun g28=> ?_)
 exact zk 3 R<|zq R R R<|zn<|Aq (by kernel_rfl) R<|zr<|za R R<|zn<|zt<|z1 R R (rI (by rw [H1 c9, ←hf,if_neg c23,if_pos (by omega)]))
 refine zp (Aa R R Sr)<|zp (Ab R R Ai R R)<|zp (Bb R R R)<|zq R R R<|zn<|?_
 refine zd R (fun c32=> ?_) (fun c32=> ?_)
 exact zr<|za R R<|zn<|zt<|z1 R R (rI (by rw [H1 c9, ←hf,if_neg c23,if_pos (by omega)]))
 refine zi<|Af (by kernel_rfl)<|zp (Aj R R R (by omega) (by omega))<|zm R R<|zn<|?_
 exact Ak (k+1) (⟨by omega,by rw [if_neg c23,if_neg (by omega)] at hf;exact hf⟩) (by omega) (fz ⟨sr,sr,sr,trivial⟩) (HSub.nil)
 have hk0b:k=l.length:=by omega
 exact Ap<|zr<|za R R<|zn<|zt<|z1 R R (rI (by rw [H1 c9, ←hf,hk0b,List.drop_length];rfl))
def Ic (b:UInt8):Prop:=(b.toNat:Int)<32∨(b.toNat:Int)=127
instance (b:UInt8):Decidable (Ic b):=by unfold Ic;exact inferInstance
def Gx (s:Sy):Int:=if s.link<0∨2<s.link then 2 else if 256<s.text.length then 5 else if ∃b∈s.text,Ic b then 6 else if s.text= []∧s.link=1 then 3 else 0
theorem Fo (l:List UInt8):(ByteArray.mk l.toArray).size=l.length:=rfl
theorem Xi {s:Sy} {k:Nat} {b:UInt8} (h1:¬s.link<0) (h2:¬2<s.link) (h3:¬256<(s.text.length:Int)) (h:s.text[k]? =some b) (hb:Ic b):6=Gx s:=by
 rw [Gx,if_neg (by omega),if_neg (by omega),if_pos ⟨b,List.mem_of_getElem? h,hb⟩]
theorem Aid {s:Sy} (h1:¬s.link<0) (h2:¬2<s.link) (h3:¬256<(s.text.length:Int)) (h:∀j b,j<s.text.length→s.text[j]? =some b→¬Ic b):Gx s=if s.text= []∧s.link=1 then 3 else 0:=by
 rw [Gx,if_neg (by omega),if_neg (by omega),if_neg]
 rintro ⟨b,hb,h4⟩
 obtain ⟨j,hj⟩:=List.getElem?_of_mem hb
 exact h j b (List.getElem?_eq_some_iff.1 hj).1 hj h4
theorem L4 {l:List UInt8}:((ByteArray.mk l.toArray).toList==(ByteArray.mk #[]).toList)=decide (l= []):=by
 rw [Mw,show (ByteArray.mk #[]).toList= [] from Mw []]
 by_cases h:l= []<;>simp [h]
end Go.Proofs.YtcihalbakenleaaGreat
namespace Go.Proofs.YtcihalbakenleaaGreat
open Go.RowKit
theorem Ajo {b:UInt8} (h:(b.toNat:Int)<32):Ic b:= .inl h
theorem Afi {b:UInt8} (h:(b.toNat:Int)=127):Ic b:= .inr h
theorem Ajn {b:UInt8} (h:¬(b.toNat:Int)<32) (h':¬(b.toNat:Int)=127):¬Ic b:=fun h2=>h2.elim h h'
theorem Auh (s:Sy):XC Tryz.prog 154 [.agg (Sy.c s)] (fun r=>r=dI (Gx s)):=by
 refine Ao Ad1 Tryz.func154 R R lb<|zr<|XL.step R (At 1 (l:= [.d (.v (.string ⟨s.text.toArray⟩)), .d (dI s.link)]) R R (by kernel_rfl))<|za R R<|zn<|zs<|Ah<|zr<|zp (Aa R R Lh)<|zp (Ab R R Ai R R)<|zp (As R R R)<|zm R R<|?_
 refine XL.dec 8 R (fun g8=> ?_) (fun g8=> ?_)
 exact zk 3 R<|zq R R R<|za R R<|zn<|Aq (by kernel_rfl) R<|zr<|za R R<|zn<|zt<|z1 R R (rI (by rw [Gx,if_pos (by omega)]))
 refine zp (Aa R R Lh)<|zp (Ab R R Ai R R)<|zp (Bb R R R)<|zq R R R<|za R R<|zn<|?_
 refine zd R (fun c4=> ?_) (fun c4=> ?_)
 exact zr<|za R R<|zn<|zt<|z1 R R (rI (by rw [Gx,if_pos (by omega)]))
 refine zr<|zp (Aa R R G2)<|zp (Ab R R L7 R R)<|zp (O4 R R Tryz.underlying9)<|zp (Bb R R R)<|za R R<|zn<|?_
 refine zd R (fun c13=> ?_) (fun c13=> ?_)
 exact zr<|za R R<|zn<|zt<|z1 R R (rI (by rw [Gx,if_neg (by omega),if_pos (by have:=c13;rw [Fo] at this;omega)]))
 refine zi<|zs<|zr<|zp (Aa R R G2)<|zp (Ab R R L7 R R)<|zp (O4 R R Tryz.underlying9)<|zm R R<|zn<|Ah<|?_
 refine Ay (α:=Nat) (fun k=>k≤s.text.length∧∀j b,j<k→s.text[j]? =some b→¬Ic b) (fun k=>mkF [(1, .ptr 1 0 0),(20, .d (dI s.text.length)),(21, .d (dI k))]) (fun k=>mkH [(1, .box ((Sy.c s).map S.d))]) (fun k=>s.text.length - k) (0) (⟨Nat.zero_le _,fun j b h=>absurd h (Nat.not_lt_zero _)⟩) ?_ ?_ ?_
 exact fz ⟨sr, .same (sI (by rw [Fo])),sr,trivial⟩
 exact gz ⟨R,trivial⟩
 intro k hk1
 obtain ⟨hk,hf⟩:=hk1
 refine zr<|zp (As R R R)<|zn<|zs<|?_
 refine zd R (fun c22=> ?_) (fun c22=> ?_)
 have hkl:k<s.text.length:=by omega
 have hsz:(s.text.length:Int)≤256:=by have:=c13;rw [Fo] at this;omega
 obtain ⟨b,hb⟩:=Au hkl
 refine zi<|zs<|Ah<|zr<|zm R R<|za R R<|znr<|zp (Aa R R G2)<|zp (Ab R R L7 R R)<|zm R R<|zp (Wl R R R Tryz.underlying9 (Qp hb))<|zp (As R R R)<|zm R R<|?_
 refine XL.dec 29 R (fun g29=> ?_) (fun g29=> ?_)
 exact zk 5 R<|zq R R R<|zn<|Aq (by kernel_rfl) R<|zr<|za R R<|zn<|zt<|z1 R R (rI (Xi g8 c4 (by rw [←Fo];exact c13) hb (Ajo g29)))
 refine zp (Aa R R G2)<|zp (Ab R R L7 R R)<|zm R R<|zp (Wl R R R Tryz.underlying9 (Qp hb))<|zp (A5 R R R)<|zq R R R<|zn<|?_
 refine zd R (fun c35=> ?_) (fun c35=> ?_)
 exact zr<|za R R<|zn<|zt<|z1 R R (rI (Xi g8 c4 (by rw [←Fo];exact c13) hb (Afi c35)))
 refine zi<|Af (by kernel_rfl)<|zp (Aj R R R (by omega) (by omega))<|zm R R<|zn<|?_
 exact Ak (k+1) (⟨by omega,fun j b' hj hb'=>by by_cases e:j=k;(· subst e;rw [hb] at hb';cases hb';exact Ajn g29 c35);(· exact hf j b' (by omega) hb')⟩) (by omega) (fz ⟨sr,sr,sr,trivial⟩) (gz ⟨rfl,trivial⟩)
 have hke:k=s.text.length:=by omega
 have he:=Aid g8 c4 (by rw [←Fo];exact c13) (fun j b hj=>hf j b (by omega))
 refine Ap<|zs<|zr<|zp (Aa R R G2)<|zp (Ab R R L7 R R)<|zp (Xp R R R)<|zm R R<|?_
 refine XL.bool 40 R (fun g40=> ?_) (fun g40=> ?_)
 refine zp (Aa R R Lh)<|zp (Ab R R Ai R R)<|zp (A5 R R R)<|zq R R R<|zn<|?_
 refine zd R (fun c44=> ?_) (fun c44=> ?_)
 exact zr<|za R R<|zn<|zt<|z1 R R (rI (by rw [L4] at g40;rw [he,if_pos ⟨of_decide_eq_true g40,c44⟩]))
 exact zi<|zr<|za R R<|zn<|zt<|z1 R R (rI (by rw [he,if_neg (fun h=>c44 h.2)]))
 exact zk 3 R<|zq R R R<|zn<|A9 (by kernel_rfl) R<|zi<|zr<|za R R<|zn<|zt<|z1 R R (rI (by rw [L4] at g40;rw [he,if_neg (fun h=>of_decide_eq_false g40 h.1)]))
def Sy.none (s:Sy):Prop:=s.text= []∧s.link=0
instance (s:Sy):Decidable s.none:=by unfold Sy.none;exact inferInstance
theorem Aon (s:Sy):XC Tryz.prog 155 [.agg (Sy.c s)] (fun r=>r=dB (decide s.none)):=by
 refine Ao Ad0 Tryz.func155 R R lb<|zr<|XL.step R (At 1 (l:= [.d (.v (.string ⟨s.text.toArray⟩)), .d (dI s.link)]) R R (by kernel_rfl))<|za R R<|znr<|zp (Ae (s':= .d (.agg (Sy.c s))) (Ac (Ad R R Jy R lb)) (by kernel_rfl))<|zp (Ae (s':= .d (.agg [.v (.string ⟨#[]⟩),dI 0])) (Ac (A4 R Asi Qm R)) (by kernel_rfl))<|?_
 exact zp (Anc R R R)<|za R R<|zn<|zt<|z1 R R (rB (by rw [decide_eq_decide,Mw,show (ByteArray.mk #[]).toList= [] from Mw []];rfl))
def H8 (l:List Sy):Int:=Dc (l.map Gx)
theorem Rf {l:List Sy} {k:Nat} {x:Sy} (h:l[k]? =some x) (hx:¬Gx x≠0):H8 (l.drop k)=H8 (l.drop (k+1)):=by rw [C2 h,H8,List.map_cons,Dc,if_neg hx];rfl
theorem Zg {l:List Sy} {k:Nat} {x:Sy} (h:l[k]? =some x) (hx:Gx x≠0):H8 (l.drop k)=Gx x:=by rw [C2 h,H8,List.map_cons,Dc,if_pos hx]
def Ji (l:List Sy):Prop:=match l.getLast? with|some s=>s.none|none=>False
instance (l:List Sy):Decidable (Ji l):=by unfold Ji;split<;>exact inferInstance
def H0 (l:List Sy):Int:=if 4<l.length then 9 else if H8 l≠0 then H8 l else if Ji l then 3 else 0
theorem Pb {l:List Sy} (h1:¬4<(l.length:Int)):H0 l=if H8 l≠0 then H8 l else if Ji l then 3 else 0:=by rw [H0,if_neg (by omega)]
theorem Mr {l:List Sy} {s:Sy} (h:l[l.length - 1]? =some s):Ji l↔s.none:=by unfold Ji;rw [List.getLast?_eq_getElem?,h]
theorem Sn {l:List Sy} (h:¬0<(l.length:Int)):¬Ji l:=by
 have:l= []:=List.eq_nil_of_length_eq_zero (by omega)
 subst this;exact fun h=>h
theorem Zf (l:List Sy):XC Tryz.prog 123 [.sl 2 (l.map Sy.c)] (fun r=>r=dI (H0 l)):=by
 refine Ao Aev Tryz.func123 R R lb<|zr<|za R R<|zn<|zs<|zr<|zm R R<|XL.len R R R Tryz.underlying58 fun hl8=>zp (Bb R R R)<|zn<|?_
 refine zd R (fun c9=> ?_) (fun c9=> ?_)
 exact zr<|za R R<|zn<|zt<|z1 R R (rI (by rw [H0,if_pos (by omega)]))
 refine zi<|zs<|zr<|zm R R<|XL.len R R R Tryz.underlying58 fun hl11=>zm R R<|zn<|Ah<|?_
 refine Ay (α:=Nat) (fun k=>k≤l.length∧H8 (l.drop k)=H8 l) (fun k=>mkF [(0, .d (.sl 2 (l.map Sy.c))),(10, .d (.sl 2 (l.map Sy.c))),(11, .d (dI l.length)),(12, .d (dI k))]) (fun k=>mkH []) (fun k=>l.length - k) (0) (⟨Nat.zero_le _,by rw [List.drop_zero]⟩) ?_ ?_ ?_
 exact fz ⟨sr,sr,sr,sr,trivial⟩
 exact HSub.nil
 intro k hk0
 obtain ⟨hk,hf⟩:=hk0
 refine zr<|zp (As R R R)<|zn<|zs<|?_
 refine zd R (fun c13=> ?_) (fun c13=> ?_)
 have hk0a:k<l.length:=by omega
 obtain ⟨x0,hx0⟩:=Au hk0a
 refine zi<|zs<|Ah<|zr<|zp (Am R R R Pm hx0)<|zp (Ae (s':= .d (.agg (Sy.c x0))) (Av R R Jy lb) (by kernel_rfl))<|XL.step R (A0 4 (l:= [.d (.v (.string ⟨#[]⟩)), .d (dI 0)]) R Qm (by kernel_rfl))<|XL.step R (Ag (l':= [.d (.v (.string ⟨x0.text.toArray⟩)), .d (dI x0.link)]) R R R R Aaz R lb (by kernel_rfl))<|znr<|?_
 refine zp (Ae (s':= .d (.agg (Sy.c x0))) (Ac (Ad R R Jy R lb)) (by kernel_rfl))<|XL.call1 R R (Auh _) R<|za R R<|znr<|zm R R<|zp (Be R R R)<|zn<|?_
 refine zd R (fun c19=> ?_) (fun c19=> ?_)
 exact zr<|zm R R<|za R R<|zn<|zt<|z1 R R (rI (by rw [Pb c9, ←hf,Zg hx0 c19,if_pos c19]))
 refine zi<|Af (by kernel_rfl)<|zp (Aj R R R (by omega) (by omega))<|zm R R<|zn<|?_
 exact Ak (k+1) (⟨by omega,by rw [←Rf hx0 c19];exact hf⟩) (by omega) (fz ⟨sr,sr,sr,sr,trivial⟩) (HSub.nil)
 have hk0b:k=l.length:=by omega
 have hz:H8 l=0:=by rw [←hf,hk0b,List.drop_length];rfl
 have hz2:H0 l=if Ji l then 3 else 0:=by rw [Pb c9,hz,if_neg (by simp)]
 refine Ap<|zs<|zr<|zm R R<|XL.len R R R Tryz.underlying58 fun hl23=>za R R<|znr<|zm R R<|zp (Bb R R R)<|zm R R<|?_
 refine XL.dec 26 R (fun g26=> ?_) (fun g26=> ?_)
 obtain ⟨s,hs⟩:∃s,l[l.length - 1]? =some s:=Au (by omega)
 refine zm R R<|zm R R<|zp (C9 R R R (by omega) (by omega))<|zp (F9 R R R (by omega:(l.length:Int) - 1=((l.length - 1:Nat):Int)) Pm hs)<|zp (Ae (s':= .d (.agg (Sy.c s))) (Av R R Jy lb) (by kernel_rfl))<|XL.call1 R R (Aon _) R<|zq R R R<|zn<|?_
 refine zd R (fun c33=> ?_) (fun c33=> ?_)
 exact zr<|za R R<|zn<|zt<|z1 R R (rI (by rw [hz2,if_pos ((Mr hs).2 c33)]))
 exact zi<|zr<|za R R<|zn<|zt<|z1 R R (rI (by rw [hz2,if_neg (fun h=>c33 ((Mr hs).1 h))]))
 exact zk 6 R<|zq R R R<|zn<|A9 (by kernel_rfl) R<|zi<|zr<|za R R<|zn<|zt<|z1 R R (rI (by rw [hz2,if_neg (Sn g26)]))
theorem I5 {α:Type} {a b:List α} (hl:a.length=b.length) (h:∀j x y,j<a.length→a[j]? =some x→b[j]? =some y→x=y):a=b:=by
 refine List.ext_getElem? fun j=> ?_
 by_cases hj:j<a.length
 ·have h1:a[j]? =some a[j]:=List.getElem?_eq_getElem hj
  have h2 : b[j]? = some (b[j]'(by omega)) := List.getElem?_eq_getElem (by omega)
  rw [h1,h2,h j _ _ hj h1 h2]
 ·rw [List.getElem?_eq_none (by omega),List.getElem?_eq_none (by omega)]
theorem Tt {α:Type} [DecidableEq α] {a b:List α} (h:a≠b):false=decide (a=b):=by rw [decide_eq_false h]
theorem Acu {α:Type} [DecidableEq α] {a b:List α} (h:a=b):true=decide (a=b):=by rw [decide_eq_true h]
theorem Hd.eq_of {x y:Hd} (h:¬ ¬((x.p.step=y.p.step∧x.p.alter=y.p.alter∧x.p.oct=y.p.oct)∧x.tied=y.tied∧x.sh=y.sh)):x=y:=by
 obtain ⟨⟨a,b,c⟩,d,e⟩:=x;obtain ⟨⟨a',b',c'⟩,d',e'⟩:=y;simp only [Decidable.not_not] at h;obtain ⟨⟨rfl,rfl,rfl⟩,rfl,rfl⟩:=h;rfl
theorem Hd.ne_of {x y:Hd} (h:¬((x.p.step=y.p.step∧x.p.alter=y.p.alter∧x.p.oct=y.p.oct)∧x.tied=y.tied∧x.sh=y.sh)):x≠y:=by rintro rfl;exact h ⟨⟨rfl,rfl,rfl⟩,rfl,rfl⟩
theorem Gr.eq_of {x y:Gr} (h:¬ ¬((x.p.step=y.p.step∧x.p.alter=y.p.alter∧x.p.oct=y.p.oct)∧x.log=y.log∧x.slash=y.slash)):x=y:=by
 obtain ⟨⟨a,b,c⟩,d,e⟩:=x;obtain ⟨⟨a',b',c'⟩,d',e'⟩:=y;simp only [Decidable.not_not] at h;obtain ⟨⟨rfl,rfl,rfl⟩,rfl,rfl⟩:=h;rfl
theorem Gr.ne_of {x y:Gr} (h:¬((x.p.step=y.p.step∧x.p.alter=y.p.alter∧x.p.oct=y.p.oct)∧x.log=y.log∧x.slash=y.slash)):x≠y:=by rintro rfl;exact h ⟨⟨rfl,rfl,rfl⟩,rfl,rfl⟩
theorem Sy.eq_of {x y:Sy} (h:¬ ¬((ByteArray.mk x.text.toArray).toList=(ByteArray.mk y.text.toArray).toList∧x.link=y.link)):x=y:=by
 obtain ⟨a,b⟩:=x;obtain ⟨a',b'⟩:=y;simp only [Decidable.not_not,Mw] at h;obtain ⟨rfl,rfl⟩:=h;rfl
theorem Sy.ne_of {x y:Sy} (h:¬((ByteArray.mk x.text.toArray).toList=(ByteArray.mk y.text.toArray).toList∧x.link=y.link)):x≠y:=by rintro rfl;exact h ⟨rfl,rfl⟩
theorem Aqv (a b:List Hd):XC Tryz.prog 148 [.sl 5 (a.map Hd.c), .sl 5 (b.map Hd.c)] (fun r=>r=dB (decide (a=b))):=by
 refine Ao Ad7 Tryz.func148 R R lb<|zr<|za R R<|zn<|zs<|zr<|zm R R<|XL.len R R R Tryz.underlying48 fun hl7=>zm R R<|XL.len R R R Tryz.underlying48 fun hl9=>zp (Be R R R)<|zn<|?_
 refine zd R (fun c10=> ?_) (fun c10=> ?_)
 exact zr<|za R R<|zn<|zt<|z1 R R (rB (Tt (fun h=>c10 (by rw [h]))))
 refine zi<|zs<|zr<|zm R R<|XL.len R R R Tryz.underlying48 fun hl12=>zm R R<|zn<|Ah<|?_
 refine Ay (α:=Nat) (fun k=>k≤a.length∧∀j x y,j<k→a[j]? =some x→b[j]? =some y→x=y) (fun k=>mkF [(0, .d (.sl 5 (a.map Hd.c))),(1, .d (.sl 5 (b.map Hd.c))),(12, .d (dI a.length)),(13, .d (dI k))]) (fun k=>mkH []) (fun k=>a.length - k) (0) (⟨Nat.zero_le _,fun j x y h=>absurd h (Nat.not_lt_zero _)⟩) ?_ ?_ ?_
 exact fz ⟨sr,sr,sr,sr,trivial⟩
 exact HSub.nil
 intro k hk0
 obtain ⟨hk,hf⟩:=hk0
 refine zr<|zp (As R R R)<|zn<|zs<|?_
 refine zd R (fun c14=> ?_) (fun c14=> ?_)
 have hk0a:k<a.length:=by omega
 obtain ⟨x,hx0⟩:=Au hk0a
 obtain ⟨y,hy⟩:∃y,b[k]? =some y:=Au (by omega)
 refine zi<|zs<|Ah<|zr<|zm R R<|za R R<|zn<|zs<|Bm [] (by kernel_rfl) (by kernel_rfl) (by kernel_rfl) (by decide)<|ym R R<|ym R R<|yp (Am R R R Fl hx0)<|yp (Ae (s':= .d (.agg (Hd.c x))) (Av R R Kk lb) (by kernel_rfl))<|ym R R<|?_
 refine ym R R<|yp (Am R R R Fl (hy))<|yp (Ae (s':= .d (.agg (Hd.c y))) (Av R R Kk lb) (by kernel_rfl))<|yp (Abt R R R)<|?_
 refine ChK.nil ⟨by kernel_rfl, ?_⟩
 refine zd R (fun c24=> ?_) (fun c24=> ?_)
 exact zr<|za R R<|zn<|zt<|z1 R R (rB (Tt (fun h=>Hd.ne_of c24 (by rw [h] at hx0;rw [hx0] at hy;cases hy;rfl))))
 refine zi<|Af (by kernel_rfl)<|zp (Aj R R R (by omega) (by omega))<|zm R R<|zn<|?_
 exact Ak (k+1) (⟨by omega,fun j x' y' hj hx' hy'=>by by_cases e:j=k;(· subst e;rw [hx0] at hx';rw [hy] at hy';cases hx';cases hy';exact Hd.eq_of c24);(· exact hf j x' y' (by omega) hx' hy')⟩) (by omega) (fz ⟨sr,sr,sr,sr,trivial⟩) (HSub.nil)
 have hk0b:k=a.length:=by omega
 exact Ap<|zr<|za R R<|zn<|zt<|z1 R R (rB (Acu (I5 (by omega) (fun j x y hj=>hf j x y (by omega)))))
theorem Aqw (a b:List Gr):XC Tryz.prog 149 [.sl 5 (a.map Gr.c), .sl 5 (b.map Gr.c)] (fun r=>r=dB (decide (a=b))):=by
 refine Ao Ad6 Tryz.func149 R R lb<|zr<|za R R<|zn<|zs<|zr<|zm R R<|XL.len R R R Tryz.underlying57 fun hl7=>zm R R<|XL.len R R R Tryz.underlying57 fun hl9=>zp (Be R R R)<|zn<|?_
 refine zd R (fun c10=> ?_) (fun c10=> ?_)
 exact zr<|za R R<|zn<|zt<|z1 R R (rB (Tt (fun h=>c10 (by rw [h]))))
 refine zi<|zs<|zr<|zm R R<|XL.len R R R Tryz.underlying57 fun hl12=>zm R R<|zn<|Ah<|?_
 refine Ay (α:=Nat) (fun k=>k≤a.length∧∀j x y,j<k→a[j]? =some x→b[j]? =some y→x=y) (fun k=>mkF [(0, .d (.sl 5 (a.map Gr.c))),(1, .d (.sl 5 (b.map Gr.c))),(12, .d (dI a.length)),(13, .d (dI k))]) (fun k=>mkH []) (fun k=>a.length - k) (0) (⟨Nat.zero_le _,fun j x y h=>absurd h (Nat.not_lt_zero _)⟩) ?_ ?_ ?_
 exact fz ⟨sr,sr,sr,sr,trivial⟩
 exact HSub.nil
 intro k hk0
 obtain ⟨hk,hf⟩:=hk0
 refine zr<|zp (As R R R)<|zn<|zs<|?_
 refine zd R (fun c14=> ?_) (fun c14=> ?_)
 have hk0a:k<a.length:=by omega
 obtain ⟨x,hx0⟩:=Au hk0a
 obtain ⟨y,hy⟩:∃y,b[k]? =some y:=Au (by omega)
 refine zi<|zs<|Ah<|zr<|zm R R<|za R R<|zn<|zs<|Bm [] (by kernel_rfl) (by kernel_rfl) (by kernel_rfl) (by decide)<|ym R R<|ym R R<|yp (Am R R R Ro hx0)<|yp (Ae (s':= .d (.agg (Gr.c x))) (Av R R Ql lb) (by kernel_rfl))<|ym R R<|?_
 refine ym R R<|yp (Am R R R Ro (hy))<|yp (Ae (s':= .d (.agg (Gr.c y))) (Av R R Ql lb) (by kernel_rfl))<|yp (Y0 R R R)<|?_
 refine ChK.nil ⟨by kernel_rfl, ?_⟩
 refine zd R (fun c24=> ?_) (fun c24=> ?_)
 exact zr<|za R R<|zn<|zt<|z1 R R (rB (Tt (fun h=>Gr.ne_of c24 (by rw [h] at hx0;rw [hx0] at hy;cases hy;rfl))))
 refine zi<|Af (by kernel_rfl)<|zp (Aj R R R (by omega) (by omega))<|zm R R<|zn<|?_
 exact Ak (k+1) (⟨by omega,fun j x' y' hj hx' hy'=>by by_cases e:j=k;(· subst e;rw [hx0] at hx';rw [hy] at hy';cases hx';cases hy';exact Gr.eq_of c24);(· exact hf j x' y' (by omega) hx' hy')⟩) (by omega) (fz ⟨sr,sr,sr,sr,trivial⟩) (HSub.nil)
 have hk0b:k=a.length:=by omega
 exact Ap<|zr<|za R R<|zn<|zt<|z1 R R (rB (Acu (I5 (by omega) (fun j x y hj=>hf j x y (by omega)))))
theorem Aqu (a b:List Sy):XC Tryz.prog 150 [.sl 2 (a.map Sy.c), .sl 2 (b.map Sy.c)] (fun r=>r=dB (decide (a=b))):=by
 refine Ao Ad5 Tryz.func150 R R lb<|zr<|za R R<|zn<|zs<|zr<|zm R R<|XL.len R R R Tryz.underlying58 fun hl7=>zm R R<|XL.len R R R Tryz.underlying58 fun hl9=>zp (Be R R R)<|zn<|?_
 refine zd R (fun c10=> ?_) (fun c10=> ?_)
 exact zr<|za R R<|zn<|zt<|z1 R R (rB (Tt (fun h=>c10 (by rw [h]))))
 refine zi<|zs<|zr<|zm R R<|XL.len R R R Tryz.underlying58 fun hl12=>zm R R<|zn<|Ah<|?_
 refine Ay (α:=Nat) (fun k=>k≤a.length∧∀j x y,j<k→a[j]? =some x→b[j]? =some y→x=y) (fun k=>mkF [(0, .d (.sl 2 (a.map Sy.c))),(1, .d (.sl 2 (b.map Sy.c))),(12, .d (dI a.length)),(13, .d (dI k))]) (fun k=>mkH []) (fun k=>a.length - k) (0) (⟨Nat.zero_le _,fun j x y h=>absurd h (Nat.not_lt_zero _)⟩) ?_ ?_ ?_
 exact fz ⟨sr,sr,sr,sr,trivial⟩
 exact HSub.nil
 intro k hk0
 obtain ⟨hk,hf⟩:=hk0
 refine zr<|zp (As R R R)<|zn<|zs<|?_
 refine zd R (fun c14=> ?_) (fun c14=> ?_)
 have hk0a:k<a.length:=by omega
 obtain ⟨x,hx0⟩:=Au hk0a
 obtain ⟨y,hy⟩:∃y,b[k]? =some y:=Au (by omega)
 refine zi<|zs<|Ah<|zr<|zm R R<|za R R<|zn<|zs<|Bm [] (by kernel_rfl) (by kernel_rfl) (by kernel_rfl) (by decide)<|ym R R<|ym R R<|yp (Am R R R Pm hx0)<|yp (Ae (s':= .d (.agg (Sy.c x))) (Av R R Jy lb) (by kernel_rfl))<|ym R R<|?_
 refine ym R R<|yp (Am R R R Pm (hy))<|yp (Ae (s':= .d (.agg (Sy.c y))) (Av R R Jy lb) (by kernel_rfl))<|yp (Yz R R R)<|?_
 refine ChK.nil ⟨by kernel_rfl, ?_⟩
 refine zd R (fun c24=> ?_) (fun c24=> ?_)
 exact zr<|za R R<|zn<|zt<|z1 R R (rB (Tt (fun h=>Sy.ne_of c24 (by rw [h] at hx0;rw [hx0] at hy;cases hy;rfl))))
 refine zi<|Af (by kernel_rfl)<|zp (Aj R R R (by omega) (by omega))<|zm R R<|zn<|?_
 exact Ak (k+1) (⟨by omega,fun j x' y' hj hx' hy'=>by by_cases e:j=k;(· subst e;rw [hx0] at hx';rw [hy] at hy';cases hx';cases hy';exact Sy.eq_of c24);(· exact hf j x' y' (by omega) hx' hy')⟩) (by omega) (fz ⟨sr,sr,sr,sr,trivial⟩) (HSub.nil)
 have hk0b:k=a.length:=by omega
 exact Ap<|zr<|za R R<|zn<|zt<|z1 R R (rB (Acu (I5 (by omega) (fun j x y hj=>hf j x y (by omega)))))
theorem Zu (n:Int):XC Tryz.prog 117 [.v (.int .i64 n)] (fun r=>r=dB (decide (1≤n∧n≤4))):=by
 refine Ao Ae1 Tryz.func117 R R lb<|zr<|za R R<|znr<|zm R R<|zp (Dr R R R)<|zm R R<|?_
 refine XL.dec 5 R (fun g5=> ?_) (fun g5=> ?_)
 exact zm R R<|zp (Fx R R R)<|zq R R R<|za R R<|zn<|zt<|z1 R R (rB (by rw [decide_eq_decide];omega))
 exact zk 2 R<|zq R R R<|za R R<|zn<|zt<|z1 R R (rB (by rw [eq_comm,decide_eq_false_iff_not];omega))
def Ey (n:Int):Int:=if n<0 then 0 else if n / 16 % 2=1 then 16 else 0
theorem Aod {n:Int} (h:¬n<0):((n.toNat &&& (16:Int).toNat:Nat):Int)=Ey n:=by
 rw [show (16:Int).toNat=2 ^ 4 from rfl,At5,Ey,if_neg h]
 split<;>split<;>omega
theorem Ajd (n:Int) (hn:n≤9223372036854775807):XC Tryz.prog 151 [.v (.int .i64 n)] (fun r=>r=dI (Ey n)):=by
 refine Ao Ad4 Tryz.func151 R R lb<|zr<|za R R<|zn<|zs<|zr<|zm R R<|zp (As R R R)<|zn<|?_
 refine zd R (fun c4=> ?_) (fun c4=> ?_)
 exact zr<|za R R<|zn<|zt<|z1 R R (rI (by rw [Ey,if_pos c4]))
 exact zi<|zr<|zm R R<|zp (Arj R R R (by omega) (by omega) (by omega) (by omega))<|za R R<|zn<|zt<|z1 R R (rI (Aod c4))
end Go.Proofs.YtcihalbakenleaaGreat
namespace Go.Proofs.YtcihalbakenleaaGreat
open Go.RowKit
def Ev.same (a b:Ev):Prop:=a.kind=b.kind∧a.v=b.v∧a.art=b.art∧a.orn=b.orn∧a.dyn=b.dyn∧a.stem=b.stem∧a.beam=b.beam∧a.heads=b.heads∧a.graces=b.graces∧a.lyr=b.lyr
instance (a b:Ev):Decidable (a.same b):=by unfold Ev.same;exact inferInstance
theorem Val.eq_of {x y:Val} (h:x.log=y.log∧x.dots=y.dots):x=y:=by obtain ⟨a,b⟩:=x;obtain ⟨c,d⟩:=y;obtain ⟨rfl,rfl⟩:=h;rfl
theorem En {a b:Ev} (h:¬a.same b):false=decide (a.same b):=by rw [decide_eq_false h]
theorem Aih (a b:Ev):XC Tryz.prog 118 [.agg (Ev.c a), .agg (Ev.c b)] (fun r=>r=dB (decide (a.same b))):=by
 refine Ao Ae0 Tryz.func118 R R lb<|zr<|XL.step R (At 2 (l:= [.d (dI a.site), .d (dI a.num), .d (dI a.kind), .d (dI a.v.log), .d (dI a.v.dots), .d (.sl 5 (a.heads.map Hd.c)), .d (.sl 5 (a.graces.map Gr.c)), .d (dI a.art), .d (dI a.orn), .d (dI a.dyn), .d (.sl 2 (a.lyr.map Sy.c)), .d (dI a.stem), .d (dI a.beam)]) R R (by kernel_rfl))<|?_
 refine XL.step R (At 3 (l:= [.d (dI b.site), .d (dI b.num), .d (dI b.kind), .d (dI b.v.log), .d (dI b.v.dots), .d (.sl 5 (b.heads.map Hd.c)), .d (.sl 5 (b.graces.map Gr.c)), .d (dI b.art), .d (dI b.orn), .d (dI b.dyn), .d (.sl 2 (b.lyr.map Sy.c)), .d (dI b.stem), .d (dI b.beam)]) R R (by kernel_rfl))<|za R R<|znr<|zp (Aa R R B2)<|zp (Ab R R Ai R R)<|?_
 refine zp (Aa R R B2)<|zp (Ab R R Ai R R)<|zp (A5 R R R)<|zm R R<|?_
 refine XL.dec 10 R (fun g10=> ?_) (fun g10=> ?_)
 refine zp (Aa R R Cm)<|zp (Ae (s':= .d (.agg (Val.c a.v))) (Ac (Ad R R Co R lb)) (by kernel_rfl))<|zp (Aa R R Cm)<|zp (Ae (s':= .d (.agg (Val.c b.v))) (Ac (Ad R R Co R lb)) (by kernel_rfl))<|zp (Q7 R R R)<|zq R R R<|zm R R<|?_
 refine XL.dec 17 R (fun g17=> ?_) (fun g17=> ?_)
 refine zp (Aa R R Dm)<|zp (Ab R R Ai R R)<|zp (Aa R R Dm)<|zp (Ab R R Ai R R)<|zp (A5 R R R)<|zq R R R<|zm R R<|?_
 refine XL.dec 24 R (fun g24=> ?_) (fun g24=> ?_)
 refine zp (Aa R R Hf)<|zp (Ab R R Ai R R)<|zp (Aa R R Hf)<|zp (Ab R R Ai R R)<|zp (A5 R R R)<|zq R R R<|zm R R<|?_
 refine XL.dec 31 R (fun g31=> ?_) (fun g31=> ?_)
 refine zp (Aa R R E9)<|zp (Ab R R Ai R R)<|zp (Aa R R E9)<|zp (Ab R R Ai R R)<|zp (A5 R R R)<|zq R R R<|zm R R<|?_
 refine XL.dec 38 R (fun g38=> ?_) (fun g38=> ?_)
 refine zp (Aa R R Et)<|zp (Ab R R Ai R R)<|zp (Aa R R Et)<|zp (Ab R R Ai R R)<|zp (A5 R R R)<|zq R R R<|zm R R<|?_
 refine XL.dec 45 R (fun g45=> ?_) (fun g45=> ?_)
 refine zp (Aa R R Gh)<|zp (Ab R R Ai R R)<|zp (Aa R R Gh)<|zp (Ab R R Ai R R)<|zp (A5 R R R)<|zq R R R<|zm R R<|?_
 refine XL.dec 52 R (fun g52=> ?_) (fun g52=> ?_)
 refine zp (Aa R R Bi)<|zp (Ab R R Ct R R)<|zp (Aa R R Bi)<|zp (Ab R R Ct R R)<|XL.call1 R R (Aqv _ _) R<|zq R R R<|zm R R<|?_
 refine XL.dec 59 R (fun g59=> ?_) (fun g59=> ?_)
 refine zp (Aa R R Fa)<|zp (Ab R R J0 R R)<|zp (Aa R R Fa)<|zp (Ab R R J0 R R)<|XL.call1 R R (Aqw _ _) R<|zq R R R<|zm R R<|?_
 refine XL.dec 66 R (fun g66=> ?_) (fun g66=> ?_)
 exact zp (Aa R R E8)<|zp (Ab R R Jz R R)<|zp (Aa R R E8)<|zp (Ab R R Jz R R)<|XL.call1 R R (Aqu _ _) R<|zq R R R<|za R R<|zn<|zt<|z1 R R (rB (by rw [decide_eq_decide];exact ⟨fun h=>⟨g10,Val.eq_of g17,g24,g31,g38,g45,g52,g59,g66,h⟩,fun h=>h.2.2.2.2.2.2.2.2.2⟩))
 exact zk 5 R<|zq R R R<|za R R<|zn<|zt<|z1 R R (rB (En fun h=>g66 h.2.2.2.2.2.2.2.2.1))
 exact zk 5 R<|zq R R R<|zm R R<|zk 5 R<|zq R R R<|za R R<|zn<|zt<|z1 R R (rB (En fun h=>g59 h.2.2.2.2.2.2.2.1))
 exact zk 5 R<|zq R R R<|zm R R<|zk 5 R<|zq R R R<|zm R R<|zk 5 R<|zq R R R<|za R R<|zn<|zt<|z1 R R (rB (En fun h=>g52 h.2.2.2.2.2.2.1))
 exact zk 5 R<|zq R R R<|zm R R<|zk 5 R<|zq R R R<|zm R R<|zk 5 R<|zq R R R<|zm R R<|zk 5 R<|zq R R R<|za R R<|zn<|zt<|z1 R R (rB (En fun h=>g45 h.2.2.2.2.2.1))
 refine zk 5 R<|zq R R R<|zm R R<|zk 5 R<|zq R R R<|zm R R<|zk 5 R<|zq R R R<|zm R R<|zk 5 R<|zq R R R<|zm R R<|zk 5 R<|zq R R R<|?_
 exact za R R<|zn<|zt<|z1 R R (rB (En fun h=>g38 h.2.2.2.2.1))
 refine zk 5 R<|zq R R R<|zm R R<|zk 5 R<|zq R R R<|zm R R<|zk 5 R<|zq R R R<|zm R R<|zk 5 R<|zq R R R<|zm R R<|zk 5 R<|zq R R R<|?_
 exact zm R R<|zk 5 R<|zq R R R<|za R R<|zn<|zt<|z1 R R (rB (En fun h=>g31 h.2.2.2.1))
 refine zk 5 R<|zq R R R<|zm R R<|zk 5 R<|zq R R R<|zm R R<|zk 5 R<|zq R R R<|zm R R<|zk 5 R<|zq R R R<|zm R R<|zk 5 R<|zq R R R<|?_
 exact zm R R<|zk 5 R<|zq R R R<|zm R R<|zk 5 R<|zq R R R<|za R R<|zn<|zt<|z1 R R (rB (En fun h=>g24 h.2.2.1))
 refine zk 5 R<|zq R R R<|zm R R<|zk 5 R<|zq R R R<|zm R R<|zk 5 R<|zq R R R<|zm R R<|zk 5 R<|zq R R R<|zm R R<|zk 5 R<|zq R R R<|?_
 exact zm R R<|zk 5 R<|zq R R R<|zm R R<|zk 5 R<|zq R R R<|zm R R<|zk 5 R<|zq R R R<|za R R<|zn<|zt<|z1 R R (rB (En fun h=>g17 (by rw [h.2.1];exact ⟨rfl,rfl⟩)))
 refine zk 5 R<|zq R R R<|zm R R<|zk 5 R<|zq R R R<|zm R R<|zk 5 R<|zq R R R<|zm R R<|zk 5 R<|zq R R R<|zm R R<|zk 5 R<|zq R R R<|?_
 refine zm R R<|zk 5 R<|zq R R R<|zm R R<|zk 5 R<|zq R R R<|zm R R<|zk 5 R<|zq R R R<|zm R R<|zk 5 R<|zq R R R<|za R R<|zn<|?_
 exact zt<|z1 R R (rB (En fun h=>g10 h.1))
def Ev.strip (e:Ev):Ev:=
 if e.kind=1∨¬(1≤e.kind∧e.kind≤4) then e else
 ⟨e.site,e.num,e.kind,if e.kind≠3 then e.v else ⟨0,0⟩, [], [],if e.kind≠4 then Ey e.art else 0,0,e.dyn, [],0,0⟩
theorem S7 {e:Ev} (h:e.kind=1):e=e.strip:=by rw [Ev.strip,if_pos (.inl h)]
theorem Ash {e:Ev} (h:¬(1≤e.kind∧e.kind≤4)):e=e.strip:=by rw [Ev.strip,if_pos (.inr h)]
theorem Asg {e:Ev} (h:¬e.kind=1) (h2:¬ ¬(1≤e.kind∧e.kind≤4)) (h3:e.kind≠3) (h4:e.kind≠4):(⟨e.site,e.num,e.kind,e.v, [], [],Ey e.art,0,e.dyn, [],0,0⟩:Ev)=e.strip:=by rw [Ev.strip,if_neg (by omega),if_pos h3,if_pos h4]
theorem Asf {e:Ev} (h:¬e.kind=1) (h2:¬ ¬(1≤e.kind∧e.kind≤4)) (h3:e.kind≠3) (h4:¬e.kind≠4):(⟨e.site,e.num,e.kind,e.v, [], [],0,0,e.dyn, [],0,0⟩:Ev)=e.strip:=by rw [Ev.strip,if_neg (by omega),if_pos h3,if_neg h4]
theorem Ase {e:Ev} (h:¬e.kind=1) (h2:¬ ¬(1≤e.kind∧e.kind≤4)) (h3:¬e.kind≠3) (h4:e.kind≠4):(⟨e.site,e.num,e.kind,⟨0,0⟩, [], [],Ey e.art,0,e.dyn, [],0,0⟩:Ev)=e.strip:=by rw [Ev.strip,if_neg (by omega),if_neg h3,if_pos h4]
theorem B0 {a b:Ev} (h:a=b):D.agg (Ev.c a)= .agg (Ev.c b):=by rw [h]
theorem Ao0 (e:Ev) (he:e.art≤9223372036854775807):XC Tryz.prog 119 [.agg (Ev.c e)] (fun r=>r= .agg (Ev.c e.strip)):=by
 refine Ao Aez Tryz.func119 R R lb<|zr<|XL.step R (At 1 (l:= [.d (dI e.site), .d (dI e.num), .d (dI e.kind), .d (dI e.v.log), .d (dI e.v.dots), .d (.sl 5 (e.heads.map Hd.c)), .d (.sl 5 (e.graces.map Gr.c)), .d (dI e.art), .d (dI e.orn), .d (dI e.dyn), .d (.sl 2 (e.lyr.map Sy.c)), .d (dI e.stem), .d (dI e.beam)]) R R (by kernel_rfl))<|?_
 refine XL.step R (A0 2 (l:= [.d (dI 0), .d (dI 0), .d (dI 0), .d (dI 0), .d (dI 0), .d (.v (.slice none 0 0)), .d (.v (.slice none 0 0)), .d (dI 0), .d (dI 0), .d (dI 0), .d (.v (.slice none 0 0)), .d (dI 0), .d (dI 0)]) R Bw (by kernel_rfl))<|zn<|zs<|zr<|zp (Aa R R B2)<|zp (Ab R R Ai R R)<|zp (A5 R R R)<|zm R R<|?_
 refine XL.dec 7 R (fun g7=> ?_) (fun g7=> ?_)
 refine zk 4 R<|zq R R R<|zn<|Aq (by kernel_rfl) R<|zr<|zp (Ae (s':= .d (.agg (Ev.c e))) (Ac (Ad R R A3 R lb)) (by kernel_rfl))<|?_
 refine XL.step R (Ag (l':= [.d (dI e.site), .d (dI e.num), .d (dI e.kind), .d (dI e.v.log), .d (dI e.v.dots), .d (.sl 5 (e.heads.map Hd.c)), .d (.sl 5 (e.graces.map Gr.c)), .d (dI e.art), .d (dI e.orn), .d (dI e.dyn), .d (.sl 2 (e.lyr.map Sy.c)), .d (dI e.stem), .d (dI e.beam)]) R R R R B4 R lb (by kernel_rfl))<|zn<|zt<|?_
 exact F6 R (RV.cells R R R A3 lb R) (B0 (S7 g7))
 refine zp (Aa R R B2)<|zp (Ab R R Ai R R)<|XL.call1 R R (Zu _) R<|zp (B6 R R)<|zq R R R<|zn<|?_
 refine zd R (fun c12=> ?_) (fun c12=> ?_)
 refine zr<|zp (Ae (s':= .d (.agg (Ev.c e))) (Ac (Ad R R A3 R lb)) (by kernel_rfl))<|?_
 refine XL.step R (Ag (l':= [.d (dI e.site), .d (dI e.num), .d (dI e.kind), .d (dI e.v.log), .d (dI e.v.dots), .d (.sl 5 (e.heads.map Hd.c)), .d (.sl 5 (e.graces.map Gr.c)), .d (dI e.art), .d (dI e.orn), .d (dI e.dyn), .d (.sl 2 (e.lyr.map Sy.c)), .d (dI e.stem), .d (dI e.beam)]) R R R R B4 R lb (by kernel_rfl))<|zn<|zt<|?_
 exact F6 R (RV.cells R R R A3 lb R) (B0 (Ash c12))
 refine zi<|zr<|zp (Aa R R Fm)<|zp (Ae (s':= .d (.agg [dI e.site,dI e.num])) (Ac (Ad R R Kw R lb)) (by kernel_rfl))<|zp (Aa R R B2)<|zp (Ab R R Ai R R)<|zp (Aa R R E9)<|zp (Ab R R Ai R R)<|?_
 refine zp (Ae (s':= .d (.agg [dI e.site,dI e.num,dI e.kind,dI 0,dI 0, .v (.slice none 0 0), .v (.slice none 0 0),dI 0,dI 0,dI e.dyn, .v (.slice none 0 0),dI 0,dI 0])) (Ac (A4 R Jp Bw R)) (by kernel_rfl))<|?_
 refine XL.step R (A0 3 (l:= [.d (dI 0), .d (dI 0), .d (dI 0), .d (dI 0), .d (dI 0), .d (.v (.slice none 0 0)), .d (.v (.slice none 0 0)), .d (dI 0), .d (dI 0), .d (dI 0), .d (.v (.slice none 0 0)), .d (dI 0), .d (dI 0)]) R Bw (by kernel_rfl))<|?_
 refine XL.step R (Ag (l':= [.d (dI e.site), .d (dI e.num), .d (dI e.kind), .d (dI 0), .d (dI 0), .d (.v (.slice none 0 0)), .d (.v (.slice none 0 0)), .d (dI 0), .d (dI 0), .d (dI e.dyn), .d (.v (.slice none 0 0)), .d (dI 0), .d (dI 0)]) R R R R B4 R lb (by kernel_rfl))<|zn<|zs<|zr<|zp (Aa R R B2)<|zp (Ab R R Ai R R)<|zp (Be R R R)<|zn<|?_
 refine zd R (fun c23=> ?_) (fun c23=> ?_)
 refine Af (by kernel_rfl)<|zp (Aa R R Cm)<|zp (Ae (s':= .d (.agg (Val.c e.v))) (Ac (Ad R R Co R lb)) (by kernel_rfl))<|zp (Aa R R Cm)<|?_
 refine XL.step R (Ag (l':= [.d (dI e.site), .d (dI e.num), .d (dI e.kind), .d (dI e.v.log), .d (dI e.v.dots), .d (.v (.slice none 0 0)), .d (.v (.slice none 0 0)), .d (dI 0), .d (dI 0), .d (dI e.dyn), .d (.v (.slice none 0 0)), .d (dI 0), .d (dI 0)]) R R R R Dx R lb (by kernel_rfl))<|zn<|zs<|zr<|zp (Aa R R B2)<|zp (Ab R R Ai R R)<|zp (Be R R R)<|zn<|?_
 refine zd R (fun c29=> ?_) (fun c29=> ?_)
 refine Af (by kernel_rfl)<|zp (Aa R R Dm)<|zp (Ab R R Ai R R)<|XL.call1 R R (Ajd _ (by assumption)) R<|zp (Aa R R Dm)<|?_
 refine XL.step R (Ag (l':= [.d (dI e.site), .d (dI e.num), .d (dI e.kind), .d (dI e.v.log), .d (dI e.v.dots), .d (.v (.slice none 0 0)), .d (.v (.slice none 0 0)), .d (dI (Ey e.art)), .d (dI 0), .d (dI e.dyn), .d (.v (.slice none 0 0)), .d (dI 0), .d (dI 0)]) R R R R Cs R lb (by kernel_rfl))<|znr<|?_
 refine zp (Ae (s':= .d (.agg [dI e.site,dI e.num,dI e.kind,dI e.v.log,dI e.v.dots, .v (.slice none 0 0), .v (.slice none 0 0),dI (Ey e.art),dI 0,dI e.dyn, .v (.slice none 0 0),dI 0,dI 0])) (Ac (Ad R R A3 R lb)) (by kernel_rfl))<|?_
 refine XL.step R (Ag (l':= [.d (dI e.site), .d (dI e.num), .d (dI e.kind), .d (dI e.v.log), .d (dI e.v.dots), .d (.v (.slice none 0 0)), .d (.v (.slice none 0 0)), .d (dI (Ey e.art)), .d (dI 0), .d (dI e.dyn), .d (.v (.slice none 0 0)), .d (dI 0), .d (dI 0)]) R R R R B4 R lb (by kernel_rfl))<|zn<|zt<|?_
 exact F6 R (RV.sub (RV.cells R R R A3 lb R) (.agg (.cons (.same R) (.cons (.same R) (.cons (.same R) (.cons (.same R) (.cons (.same R) (.cons (.nil 5) (.cons (.nil 5) (.cons (.same R) (.cons (.same R) (.cons (.same R) (.cons (.nil 2) (.cons (.same R) (.cons (.same R) (.nil)))))))))))))))) (B0 (Asg g7 c12 c23 c29))
 refine zi<|zr<|zp (Ae (s':= .d (.agg [dI e.site,dI e.num,dI e.kind,dI e.v.log,dI e.v.dots, .v (.slice none 0 0), .v (.slice none 0 0),dI 0,dI 0,dI e.dyn, .v (.slice none 0 0),dI 0,dI 0])) (Ac (Ad R R A3 R lb)) (by kernel_rfl))<|?_
 refine XL.step R (Ag (l':= [.d (dI e.site), .d (dI e.num), .d (dI e.kind), .d (dI e.v.log), .d (dI e.v.dots), .d (.v (.slice none 0 0)), .d (.v (.slice none 0 0)), .d (dI 0), .d (dI 0), .d (dI e.dyn), .d (.v (.slice none 0 0)), .d (dI 0), .d (dI 0)]) R R R R B4 R lb (by kernel_rfl))<|zn<|zt<|?_
 exact F6 R (RV.sub (RV.cells R R R A3 lb R) (.agg (.cons (.same R) (.cons (.same R) (.cons (.same R) (.cons (.same R) (.cons (.same R) (.cons (.nil 5) (.cons (.nil 5) (.cons (.same R) (.cons (.same R) (.cons (.same R) (.cons (.nil 2) (.cons (.same R) (.cons (.same R) (.nil)))))))))))))))) (B0 (Asf g7 c12 c23 c29))
 refine zi<|zs<|zr<|zp (Aa R R B2)<|zp (Ab R R Ai R R)<|zp (Be R R R)<|zn<|?_
 refine zd R (fun c29=> ?_) (fun c29=> ?_)
 refine Af (by kernel_rfl)<|zp (Aa R R Dm)<|zp (Ab R R Ai R R)<|XL.call1 R R (Ajd _ (by assumption)) R<|zp (Aa R R Dm)<|?_
 refine XL.step R (Ag (l':= [.d (dI e.site), .d (dI e.num), .d (dI e.kind), .d (dI 0), .d (dI 0), .d (.v (.slice none 0 0)), .d (.v (.slice none 0 0)), .d (dI (Ey e.art)), .d (dI 0), .d (dI e.dyn), .d (.v (.slice none 0 0)), .d (dI 0), .d (dI 0)]) R R R R Cs R lb (by kernel_rfl))<|znr<|?_
 refine zp (Ae (s':= .d (.agg [dI e.site,dI e.num,dI e.kind,dI 0,dI 0, .v (.slice none 0 0), .v (.slice none 0 0),dI (Ey e.art),dI 0,dI e.dyn, .v (.slice none 0 0),dI 0,dI 0])) (Ac (Ad R R A3 R lb)) (by kernel_rfl))<|?_
 refine XL.step R (Ag (l':= [.d (dI e.site), .d (dI e.num), .d (dI e.kind), .d (dI 0), .d (dI 0), .d (.v (.slice none 0 0)), .d (.v (.slice none 0 0)), .d (dI (Ey e.art)), .d (dI 0), .d (dI e.dyn), .d (.v (.slice none 0 0)), .d (dI 0), .d (dI 0)]) R R R R B4 R lb (by kernel_rfl))<|zn<|zt<|?_
 exact F6 R (RV.sub (RV.cells R R R A3 lb R) (.agg (.cons (.same R) (.cons (.same R) (.cons (.same R) (.cons (.same R) (.cons (.same R) (.cons (.nil 5) (.cons (.nil 5) (.cons (.same R) (.cons (.same R) (.cons (.same R) (.cons (.nil 2) (.cons (.same R) (.cons (.same R) (.nil)))))))))))))))) (B0 (Ase g7 c12 c23 c29))
 refine zi<|zr<|zp (Ae (s':= .d (.agg [dI e.site,dI e.num,dI e.kind,dI 0,dI 0, .v (.slice none 0 0), .v (.slice none 0 0),dI 0,dI 0,dI e.dyn, .v (.slice none 0 0),dI 0,dI 0])) (Ac (Ad R R A3 R lb)) (by kernel_rfl))<|?_
 refine XL.step R (Ag (l':= [.d (dI e.site), .d (dI e.num), .d (dI e.kind), .d (dI 0), .d (dI 0), .d (.v (.slice none 0 0)), .d (.v (.slice none 0 0)), .d (dI 0), .d (dI 0), .d (dI e.dyn), .d (.v (.slice none 0 0)), .d (dI 0), .d (dI 0)]) R R R R B4 R lb (by kernel_rfl))<|zn<|zt<|?_
 exact F6 R (RV.sub (RV.cells R R R A3 lb R) (.agg (.cons (.same R) (.cons (.same R) (.cons (.same R) (.cons (.same R) (.cons (.same R) (.cons (.nil 5) (.cons (.nil 5) (.cons (.same R) (.cons (.same R) (.cons (.same R) (.cons (.nil 2) (.cons (.same R) (.cons (.same R) (.nil)))))))))))))))) (by exfalso;omega)
def Dj (v:Val):Int:=if -1≤v.log∧v.log≤8∧0≤v.dots∧v.dots≤3 then 0 else 17
theorem Ot {v:Val} (h:¬(-1≤v.log∧v.log≤8∧0≤v.dots∧v.dots≤3)):17=Dj v:=by rw [Dj,if_neg h]
theorem R2 {v:Val} (h: -1≤v.log∧v.log≤8∧0≤v.dots∧v.dots≤3):0=Dj v:=by rw [Dj,if_pos h]
theorem O5 {v:Val} (h:¬Dj v≠0): -1≤v.log∧v.log≤8∧0≤v.dots∧v.dots≤3:=by
 unfold Dj at h;split at h
 ·assumption
 ·omega
theorem Zy (v:Val):XC Tryz.prog 120 [.agg (Val.c v)] (fun r=>r=dI (Dj v)):=by
 refine Ao Aey Tryz.func120 R R lb<|zr<|XL.step R (At 1 (l:= [.d (dI v.log), .d (dI v.dots)]) R R (by kernel_rfl))<|za R R<|zn<|zs<|zr<|zp (Aa R R Mm)<|zp (Ab R R Ai R R)<|zp (As R R R)<|zm R R<|?_
 refine XL.dec 6 R (fun g6=> ?_) (fun g6=> ?_)
 exact zk 3 R<|zq R R R<|zm R R<|zk 3 R<|zq R R R<|zm R R<|zk 3 R<|zq R R R<|zn<|Aq (by kernel_rfl) R<|zr<|za R R<|zn<|zt<|z1 R R (rI (Ot (by omega)))
 refine zp (Aa R R Mm)<|zp (Ab R R Ai R R)<|zp (Bb R R R)<|zq R R R<|zm R R<|?_
 refine XL.dec 11 R (fun g11=> ?_) (fun g11=> ?_)
 exact zk 3 R<|zq R R R<|zm R R<|zk 3 R<|zq R R R<|zn<|Aq (by kernel_rfl) R<|zr<|za R R<|zn<|zt<|z1 R R (rI (Ot (by omega)))
 refine zp (Aa R R Ii)<|zp (Ab R R Ai R R)<|zp (As R R R)<|zq R R R<|zm R R<|?_
 refine XL.dec 16 R (fun g16=> ?_) (fun g16=> ?_)
 exact zk 3 R<|zq R R R<|zn<|Aq (by kernel_rfl) R<|zr<|za R R<|zn<|zt<|z1 R R (rI (Ot (by omega)))
 refine zp (Aa R R Ii)<|zp (Ab R R Ai R R)<|zp (Bb R R R)<|zq R R R<|zn<|?_
 refine zd R (fun c20=> ?_) (fun c20=> ?_)
 exact zr<|za R R<|zn<|zt<|z1 R R (rI (Ot (by omega)))
 exact zi<|zr<|za R R<|zn<|zt<|z1 R R (rI (R2 (by omega)))
def E6 (p:Int):Nat→Int × Int
 |0=>(p,p)
 |n+1=>((E6 p n).1 / 2,(E6 p n).2+(E6 p n).1 / 2)
theorem Lj {p:Int} (h0:0≤p) (n:Nat):0≤(E6 p n).1∧(E6 p n).1≤p∧0≤(E6 p n).2∧(E6 p n).2≤p*(n+1):=by
 induction n with
 |zero=>simp [E6];omega
 |succ n ih=>
  have e:p*((n+1:Nat)+1:Int)=p*(n+1)+p:=by rw [Int.natCast_add,Int.mul_add];simp
  simp only [E6]
  rw [e]
  omega
def Eo (v:Val):Int:=3870720 / 2 ^ (v.log+1).toNat
def Cq (v:Val):Int:=(E6 (Eo v) v.dots.toNat).2
theorem Mq (v:Val):0≤Eo v∧Eo v≤3870720:=by
 unfold Eo
 have h:(0:Int)<2 ^ (v.log+1).toNat:=Int.pow_pos (by omega)
 exact ⟨Int.ediv_nonneg (by omega) (by omega),Int.ediv_le_self _ (by omega)⟩
theorem Zx (v:Val) (hv: -1≤v.log∧v.log≤8∧0≤v.dots∧v.dots≤3):XC Tryz.prog 170 [.agg (Val.c v)] (fun r=>r=dI (Cq v)):=by
 have hp:=Mq v
 refine Ao Adn Tryz.func170 R R lb<|zr<|XL.step R (At 1 (l:= [.d (dI v.log), .d (dI v.dots)]) R R (by kernel_rfl))<|za R R<|znr<|zp (Aa R R Mm)<|zp (Ab R R Ai R R)<|zp (Aj R R R (by omega) (by omega))<|zp (Aac R R R (by omega) (by omega))<|za R R<|znr<|zm R R<|za R R<|zn<|?_
 refine zs<|zr<|zp (Aa R R Ii)<|zp (Ab R R Ai R R)<|zm R R<|zn<|Ah<|?_
 refine Ay (α:=Nat) (fun k=>(k:Int)≤v.dots) (fun k=>mkF [(2, .d (dI 0)),(3, .d (dI (E6 (Eo v) k).1)),(4, .d (dI (E6 (Eo v) k).2)),(11, .d (dI v.dots)),(12, .d (dI k))]) (fun k=>mkH []) (fun k=>v.dots.toNat - k) (0) (hv.2.2.1) ?_ ?_ ?_
 exact fz ⟨sr,sr,sr,sr,sr,trivial⟩
 exact HSub.nil
 intro k hk0
 refine zr<|zp (As R R R)<|zn<|zs<|?_
 refine zd R (fun c13=> ?_) (fun c13=> ?_)
 have hb:=Lj hp.1 k
 have hb2:Eo v*((k:Int)+1)≤3870720*4:=Int.mul_le_mul hp.2 (by omega) (by omega) (by omega)
 refine zi<|zs<|Ah<|zr<|zm R R<|zp (Gy R R R (by omega) (by omega) (by omega))<|za R R<|zng<|zm R R<|zm R R<|zp (Aj R R R (by omega) (by omega))<|za R R<|zn<|Af (by kernel_rfl)<|?_
 refine zp (Aj R R R (by omega) (by omega))<|zm R R<|zn<|?_
 exact Ak (k+1) (by omega) (by omega) (fz ⟨sr,sr,sr,sr,sr,trivial⟩) (HSub.nil)
 have hke:v.dots.toNat=k:=by omega
 exact Ap<|zr<|zm R R<|za R R<|zn<|zt<|z1 R R (rI (by rw [Cq,hke]))
def R1 (v:Val):Int:=if Dj v=0 then Cq v else 0
theorem Ar9 {v:Val} (h:Dj v≠0):0=R1 v:=by rw [R1,if_neg h]
theorem Ah9 {v:Val} (h:¬Dj v≠0):Cq v=R1 v∧0=Dj v:=⟨by rw [R1,if_pos (by omega)],by omega⟩
theorem Aoh (v:Val):XC Tryz.prog 180 [.agg (Val.c v)] (fun r=>r= .tup [dI (R1 v),dI (Dj v)]):=by
 refine Ao Add Tryz.func180 R R lb<|zr<|XL.step R (At 1 (l:= [.d (dI v.log), .d (dI v.dots)]) R R (by kernel_rfl))<|za R R<|za R R<|zn<|zs<|zr<|zp (Ae (s':= .d (.agg (Val.c v))) (Ac (Ad R R Co R lb)) (by kernel_rfl))<|XL.call1 R R (Zy _) R<|za R R<|znr<|zm R R<|zp (Be R R R)<|?_
 refine zn<|?_
 refine zd R (fun c8=> ?_) (fun c8=> ?_)
 refine zr<|zm R R<|za R R<|za R R<|zn<|zt<|?_
 exact Bh R (RV.tmp R R) (RV.tmp R R) (r2 (rI (Ar9 c8)) R)
 refine zi<|zs<|?_
 have hv:=O5 c8
 refine Af (by kernel_rfl)<|zp (Ae (s':= .d (.agg (Val.c v))) (Ac (Ad R R Co R lb)) (by kernel_rfl))<|XL.call1 R R (Zx _ (by assumption)) R<|za R R<|za R R<|zn<|zt<|?_
 exact Bh R (RV.tmp R R) (RV.tmp R R) (r2 (rI (Ah9 c8).1) (rI (Ah9 c8).2))
def Ev.e1 (e:Ev):Int:=Dc [B3 e.site 99,B3 e.num 1073741824]
def Ev.e2 (e:Ev):Int:=Dc [C0 e.heads,Fq e.graces,H0 e.lyr]
def Ev.e3 (e:Ev):Int:=Dc [B3 e.art 31,B3 e.orn 4,B3 e.dyn 9,B3 e.stem 2,B3 e.beam 2]
def Ev.err (e:Ev):Int:=
 if e.e1≠0 then e.e1 else if ¬(1≤e.kind∧e.kind≤4) then 11 else if ¬e.same e.strip then 3 else if e.kind≠3∧Dj e.v≠0 then 17
 else if e.kind=1∧e.e2≠0 then e.e2 else e.e3
theorem Awy {e:Ev} (h:e.e1≠0):e.e1=e.err:=by rw [Ev.err,if_pos h]
theorem Arq {e:Ev} (h:¬e.e1≠0) (h2:¬(1≤e.kind∧e.kind≤4)):11=e.err:=by rw [Ev.err,if_neg h,if_pos h2]
theorem Arp {e:Ev} (h:¬e.e1≠0) (h2:¬ ¬(1≤e.kind∧e.kind≤4)) (h3:¬e.same e.strip):3=e.err:=by rw [Ev.err,if_neg h,if_neg h2,if_pos h3]
theorem Aro {e:Ev} (h:¬e.e1≠0) (h2:¬ ¬(1≤e.kind∧e.kind≤4)) (h3:¬ ¬e.same e.strip) (h4:e.kind≠3) (h5:Dj e.v≠0):17=e.err:=by rw [Ev.err,if_neg h,if_neg h2,if_neg h3,if_pos ⟨h4,h5⟩]
theorem Arn {e:Ev} (h:¬e.e1≠0) (h2:¬ ¬(1≤e.kind∧e.kind≤4)) (h3:¬ ¬e.same e.strip) (h4:¬(e.kind≠3∧Dj e.v≠0)) (h5:e.kind=1) (h6:e.e2≠0):e.e2=e.err:=by rw [Ev.err,if_neg h,if_neg h2,if_neg h3,if_neg h4,if_pos ⟨h5,h6⟩]
theorem Aaj {e:Ev} (h:¬e.e1≠0) (h2:¬ ¬(1≤e.kind∧e.kind≤4)) (h3:¬ ¬e.same e.strip) (h4:¬(e.kind≠3∧Dj e.v≠0)) (h5:¬(e.kind=1∧e.e2≠0)):e.e3=e.err:=by rw [Ev.err,if_neg h,if_neg h2,if_neg h3,if_neg h4,if_neg h5]
theorem Pn (e:Ev) (he:e.art≤9223372036854775807):XC Tryz.prog 75 [.agg (Ev.c e)] (fun r=>r=dI e.err):=by
 refine Ao Ags Tryz.func75 R R lb<|zr<|XL.step R (At 1 (l:= [.d (dI e.site), .d (dI e.num), .d (dI e.kind), .d (dI e.v.log), .d (dI e.v.dots), .d (.sl 5 (e.heads.map Hd.c)), .d (.sl 5 (e.graces.map Gr.c)), .d (dI e.art), .d (dI e.orn), .d (dI e.dyn), .d (.sl 2 (e.lyr.map Sy.c)), .d (dI e.stem), .d (dI e.beam)]) R R (by kernel_rfl))<|za R R<|zn<|zs<|zs<|?_
 refine Bm [] (by kernel_rfl) (by kernel_rfl) (by kernel_rfl) (by decide)<|yp (Aa R R Fm)<|yp (Aa R R Acn)<|yp (Ab R R Ai R R)<|ChK.cons R (CStep.call R (De _ _) R)<|yp (Aa R R Fm)<|yp (Aa R R Acm)<|yp (Ab R R Ai R R)<|ChK.cons R (CStep.call R (De _ _) R)<|?_
 refine ChK.cons R (CStep.slice (l:=B8 [(B3 e.site 99),(B3 e.num 1073741824)]) R Tryz.underlying180 Ov La (by kernel_rfl) R (by omega) (by omega))<|ChK.cons R (CStep.call R (Kg _) R)<|ya R R<|?_
 refine ChK.nil ⟨by kernel_rfl, ?_⟩
 refine zr<|zm R R<|zp (Be R R R)<|zn<|?_
 refine zd R (fun c16=> ?_) (fun c16=> ?_)
 exact zr<|zm R R<|za R R<|zn<|zt<|z1 R R (rI (Awy c16))
 refine zi<|zs<|zr<|zp (Aa R R B2)<|zp (Ab R R Ai R R)<|XL.call1 R R (Zu _) R<|zp (B6 R R)<|zn<|?_
 refine zd R (fun c21=> ?_) (fun c21=> ?_)
 exact zr<|za R R<|zn<|zt<|z1 R R (rI (Arq c16 c21))
 refine zi<|zs<|zs<|Bm [] (by kernel_rfl) (by kernel_rfl) (by kernel_rfl) (by decide)<|yp (Ae (s':= .d (.agg (Ev.c e))) (Ac (Ad R R A3 R lb)) (by kernel_rfl))<|yp (Ae (s':= .d (.agg (Ev.c e))) (Ac (Ad R R A3 R lb)) (by kernel_rfl))<|ChK.cons R (CStep.call R (Ao0 _ (by assumption)) R)<|ChK.cons R (CStep.call R (Aih _ _) R)<|?_
 refine yp (B6 R R)<|?_
 refine ChK.nil ⟨by kernel_rfl, ?_⟩
 refine zd R (fun c26=> ?_) (fun c26=> ?_)
 exact zr<|za R R<|zn<|zt<|z1 R R (rI (Arp c16 c21 c26))
 refine zi<|zs<|zr<|zp (Aa R R B2)<|zp (Ab R R Ai R R)<|zp (Be R R R)<|zm R R<|?_
 refine XL.dec 30 R (fun g30=> ?_) (fun g30=> ?_)
 refine zp (Aa R R Cm)<|zp (Ae (s':= .d (.agg (Val.c e.v))) (Ac (Ad R R Co R lb)) (by kernel_rfl))<|XL.call1 R R (Zy _) R<|zp (Be R R R)<|zq R R R<|zn<|?_
 refine zd R (fun c35=> ?_) (fun c35=> ?_)
 exact zr<|za R R<|zn<|zt<|z1 R R (rI (Aro c16 c21 c26 g30 c35))
 refine zi<|zs<|zr<|zp (Aa R R B2)<|zp (Ab R R Ai R R)<|zp (A5 R R R)<|zn<|?_
 refine zd R (fun c38=> ?_) (fun c38=> ?_)
 refine zs<|Bm [] (by kernel_rfl) (by kernel_rfl) (by kernel_rfl) (by decide)<|yp (Aa R R Bi)<|yp (Ab R R Ct R R)<|ChK.cons R (CStep.call R (Acg _) R)<|yp (Aa R R Fa)<|yp (Ab R R J0 R R)<|ChK.cons R (CStep.call R (Zo _) R)<|yp (Aa R R E8)<|yp (Ab R R Jz R R)<|ChK.cons R (CStep.call R (Zf _) R)<|?_
 refine ChK.cons R (CStep.slice (l:=B8 [(C0 e.heads),(Fq e.graces),(H0 e.lyr)]) R Tryz.underlying180 Ov La (by kernel_rfl) R (by omega) (by omega))<|ChK.cons R (CStep.call R (Kg _) R)<|ya R R<|?_
 refine ChK.nil ⟨by kernel_rfl, ?_⟩
 refine zr<|zm R R<|zp (Be R R R)<|zn<|?_
 refine zd R (fun c51=> ?_) (fun c51=> ?_)
 exact zr<|zm R R<|za R R<|zn<|zt<|z1 R R (rI (Arn c16 c21 c26 (fun h=>c35 h.2) c38 c51))
 refine zi<|zs<|Bm [] (by kernel_rfl) (by kernel_rfl) (by kernel_rfl) (by decide)<|yp (Aa R R Dm)<|yp (Ab R R Ai R R)<|ChK.cons R (CStep.call R (De _ _) R)<|yp (Aa R R Hf)<|yp (Ab R R Ai R R)<|ChK.cons R (CStep.call R (De _ _) R)<|yp (Aa R R E9)<|yp (Ab R R Ai R R)<|ChK.cons R (CStep.call R (De _ _) R)<|?_
 refine yp (Aa R R Et)<|yp (Ab R R Ai R R)<|ChK.cons R (CStep.call R (De _ _) R)<|yp (Aa R R Gh)<|yp (Ab R R Ai R R)<|ChK.cons R (CStep.call R (De _ _) R)<|?_
 refine ChK.cons R (CStep.slice (l:=B8 [(B3 e.art 31),(B3 e.orn 4),(B3 e.dyn 9),(B3 e.stem 2),(B3 e.beam 2)]) R Tryz.underlying180 Ov La (by kernel_rfl) R (by omega) (by omega))<|ChK.cons R (CStep.call R (Kg _) R)<|ya R R<|?_
 refine ChK.nil ⟨by kernel_rfl, ?_⟩
 exact zt<|z1 R R (rI (Aaj c16 c21 c26 (fun h=>c35 h.2) (fun h=>c51 h.2)))
 refine zi<|zs<|Bm [] (by kernel_rfl) (by kernel_rfl) (by kernel_rfl) (by decide)<|yp (Aa R R Dm)<|yp (Ab R R Ai R R)<|ChK.cons R (CStep.call R (De _ _) R)<|yp (Aa R R Hf)<|yp (Ab R R Ai R R)<|ChK.cons R (CStep.call R (De _ _) R)<|yp (Aa R R E9)<|yp (Ab R R Ai R R)<|ChK.cons R (CStep.call R (De _ _) R)<|?_
 refine yp (Aa R R Et)<|yp (Ab R R Ai R R)<|ChK.cons R (CStep.call R (De _ _) R)<|yp (Aa R R Gh)<|yp (Ab R R Ai R R)<|ChK.cons R (CStep.call R (De _ _) R)<|?_
 refine ChK.cons R (CStep.slice (l:=B8 [(B3 e.art 31),(B3 e.orn 4),(B3 e.dyn 9),(B3 e.stem 2),(B3 e.beam 2)]) R Tryz.underlying180 Ov La (by kernel_rfl) R (by omega) (by omega))<|ChK.cons R (CStep.call R (Kg _) R)<|ya R R<|?_
 refine ChK.nil ⟨by kernel_rfl, ?_⟩
 exact zt<|z1 R R (rI (Aaj c16 c21 c26 (fun h=>c35 h.2) (fun h=>c38 h.1)))
 refine zk 4 R<|zq R R R<|zn<|A9 (by kernel_rfl) R<|zi<|zs<|zr<|zp (Aa R R B2)<|zp (Ab R R Ai R R)<|zp (A5 R R R)<|zn<|?_
 refine zd R (fun c38=> ?_) (fun c38=> ?_)
 refine zs<|Bm [] (by kernel_rfl) (by kernel_rfl) (by kernel_rfl) (by decide)<|yp (Aa R R Bi)<|yp (Ab R R Ct R R)<|ChK.cons R (CStep.call R (Acg _) R)<|yp (Aa R R Fa)<|yp (Ab R R J0 R R)<|ChK.cons R (CStep.call R (Zo _) R)<|yp (Aa R R E8)<|yp (Ab R R Jz R R)<|ChK.cons R (CStep.call R (Zf _) R)<|?_
 refine ChK.cons R (CStep.slice (l:=B8 [(C0 e.heads),(Fq e.graces),(H0 e.lyr)]) R Tryz.underlying180 Ov La (by kernel_rfl) R (by omega) (by omega))<|ChK.cons R (CStep.call R (Kg _) R)<|ya R R<|?_
 refine ChK.nil ⟨by kernel_rfl, ?_⟩
 refine zr<|zm R R<|zp (Be R R R)<|zn<|?_
 refine zd R (fun c51=> ?_) (fun c51=> ?_)
 exact zr<|zm R R<|za R R<|zn<|zt<|z1 R R (by exfalso;omega)
 refine zi<|zs<|Bm [] (by kernel_rfl) (by kernel_rfl) (by kernel_rfl) (by decide)<|yp (Aa R R Dm)<|yp (Ab R R Ai R R)<|ChK.cons R (CStep.call R (De _ _) R)<|yp (Aa R R Hf)<|yp (Ab R R Ai R R)<|ChK.cons R (CStep.call R (De _ _) R)<|yp (Aa R R E9)<|yp (Ab R R Ai R R)<|ChK.cons R (CStep.call R (De _ _) R)<|?_
 refine yp (Aa R R Et)<|yp (Ab R R Ai R R)<|ChK.cons R (CStep.call R (De _ _) R)<|yp (Aa R R Gh)<|yp (Ab R R Ai R R)<|ChK.cons R (CStep.call R (De _ _) R)<|?_
 refine ChK.cons R (CStep.slice (l:=B8 [(B3 e.art 31),(B3 e.orn 4),(B3 e.dyn 9),(B3 e.stem 2),(B3 e.beam 2)]) R Tryz.underlying180 Ov La (by kernel_rfl) R (by omega) (by omega))<|ChK.cons R (CStep.call R (Kg _) R)<|ya R R<|?_
 refine ChK.nil ⟨by kernel_rfl, ?_⟩
 exact zt<|z1 R R (by exfalso;omega)
 refine zi<|zs<|Bm [] (by kernel_rfl) (by kernel_rfl) (by kernel_rfl) (by decide)<|yp (Aa R R Dm)<|yp (Ab R R Ai R R)<|ChK.cons R (CStep.call R (De _ _) R)<|yp (Aa R R Hf)<|yp (Ab R R Ai R R)<|ChK.cons R (CStep.call R (De _ _) R)<|yp (Aa R R E9)<|yp (Ab R R Ai R R)<|ChK.cons R (CStep.call R (De _ _) R)<|?_
 refine yp (Aa R R Et)<|yp (Ab R R Ai R R)<|ChK.cons R (CStep.call R (De _ _) R)<|yp (Aa R R Gh)<|yp (Ab R R Ai R R)<|ChK.cons R (CStep.call R (De _ _) R)<|?_
 refine ChK.cons R (CStep.slice (l:=B8 [(B3 e.art 31),(B3 e.orn 4),(B3 e.dyn 9),(B3 e.stem 2),(B3 e.beam 2)]) R Tryz.underlying180 Ov La (by kernel_rfl) R (by omega) (by omega))<|ChK.cons R (CStep.call R (Kg _) R)<|ya R R<|?_
 refine ChK.nil ⟨by kernel_rfl, ?_⟩
 exact zt<|z1 R R (rI (Aaj c16 c21 c26 (fun h=>g30 h.1) (fun h=>c38 h.1)))
def Ev.len (e:Ev):Int:=if e.err≠0∨e.kind=3 then 0 else R1 e.v
theorem Aww {e:Ev} (h:e.err≠0):0=e.len:=by rw [Ev.len,if_pos (.inl h)]
theorem Awv {e:Ev} (h:e.kind=3):0=e.len:=by rw [Ev.len,if_pos (.inr h)]
theorem Awu {e:Ev} (h:¬e.err≠0) (h2:¬e.kind=3):R1 e.v=e.len:=by rw [Ev.len,if_neg (by omega)]
theorem Ajy {e:Ev} (h:¬e.err≠0) (h2:¬e.kind=3):Dj e.v=e.err:=by
 have h0:e.err=0:=by omega
 rw [h0]
 unfold Ev.err at h0
 split at h0
 ·rename_i h1;exact absurd h0 h1
 ·split at h0
  ·omega
  ·split at h0
   ·omega
   ·split at h0
    ·omega
    ·rename_i h4;by_cases h5:Dj e.v=0
     ·exact h5
     ·exact absurd ⟨h2,h5⟩ h4
theorem Ajs (e:Ev) (he:e.art≤9223372036854775807):XC Tryz.prog 162 [.agg (Ev.c e)] (fun r=>r= .tup [dI e.len,dI e.err]):=by
 refine Ao Adt Tryz.func162 R R lb<|zr<|XL.step R (At 1 (l:= [.d (dI e.site), .d (dI e.num), .d (dI e.kind), .d (dI e.v.log), .d (dI e.v.dots), .d (.sl 5 (e.heads.map Hd.c)), .d (.sl 5 (e.graces.map Gr.c)), .d (dI e.art), .d (dI e.orn), .d (dI e.dyn), .d (.sl 2 (e.lyr.map Sy.c)), .d (dI e.stem), .d (dI e.beam)]) R R (by kernel_rfl))<|za R R<|za R R<|zn<|zs<|zr<|?_
 refine zp (Ae (s':= .d (.agg (Ev.c e))) (Ac (Ad R R A3 R lb)) (by kernel_rfl))<|XL.call1 R R (Pn _ (by assumption)) R<|za R R<|znr<|zm R R<|zp (Be R R R)<|zm R R<|?_
 refine XL.dec 9 R (fun g9=> ?_) (fun g9=> ?_)
 refine zk 3 R<|zq R R R<|zn<|Aq (by kernel_rfl) R<|zr<|zm R R<|za R R<|za R R<|zn<|zt<|?_
 exact Bh R (RV.tmp R R) (RV.tmp R R) (r2 (rI (Aww g9)) R)
 refine zp (Aa R R B2)<|zp (Ab R R Ai R R)<|zp (A5 R R R)<|zq R R R<|zn<|?_
 refine zd R (fun c13=> ?_) (fun c13=> ?_)
 refine zr<|zm R R<|za R R<|za R R<|zn<|zt<|?_
 exact Bh R (RV.tmp R R) (RV.tmp R R) (r2 (rI (Awv c13)) R)
 refine zi<|zr<|zp (Aa R R Cm)<|zp (Ae (s':= .d (.agg (Val.c e.v))) (Ac (Ad R R Co R lb)) (by kernel_rfl))<|XL.call1 R R (Aoh _) R<|zp (A6 R R R)<|zp (A6 R R R)<|za R R<|za R R<|zn<|zt<|?_
 exact Bh R (RV.tmp R R) (RV.tmp R R) (r2 (rI (Awu g9 c13)) (rI (Ajy g9 c13)))
end Go.Proofs.YtcihalbakenleaaGreat
namespace Go.Proofs.YtcihalbakenleaaGreat
open Go.RowKit
theorem Bd.ati {e:Operand→S} {y:Operand} {k:IntKind} {b:Int} {a dflt:Nat} (h:e y= .d (.v (.int k b))) (hb:b=(a:Int)):Bd e (some y) dflt a:=by subst hb;exact .at h
theorem Al3 {P:Program} {F:FuncId} {ds:List D} {p:Prop} [Decidable p] (hx:XC P F ds (fun r=>r= .v (.bool (decide p)))) (h:p):XC P F ds (fun r=>r= .v (.bool true)):=by rwa [decide_eq_true h] at hx
theorem Io {id:Nat} {K:Ei} {f:Fr} {h:Xh} (hk:K .normal f h):W4 id K .normal f h:=hk
theorem Sim.lay {E:Env} {H:Hp} {β:Bt} {h:Xh} {w:World} (s:Sim E H β h w) (i:Nat) (o':XO) (L':Loc) (hblk:∀b,o'.blk L'=some b→∃o L,h i=some o∧β i=some L∧o.blk L=some b)
  (hok:OKo E.w.heap.size w H (β.set i (some L')) L' o'):Sim E H (β.set i (some L')) ((h.kill i).set i o') w:=by
 have k:=s.kill i (some L')
 have old:∀j o1 L1,i≠j→h.kill i j=some o1→(β.set i (some L')) j=some L1→∃o2,h j=some o2∧β j=some L1∧o1.blk L1=o2.blk L1:=fun j o1 L1 e h1 h2=>by
  rw [Xh.kill_ne h e] at h1
  rw [Bt.set_ne β _ e] at h2
  cases hj:h j with
  |none=>rw [hj] at h1;cases h1
  |some o2=>rw [hj] at h1;cases h1;exact ⟨o2,rfl,h2,XO.blk_kill _ _ _⟩
 refine ⟨k.below,k.ext,k.new,k.imm,fun j o1 L1 h1 h2=> ?_,fun j o1 L1 h1 h2 b hb=> ?_,fun j j' o1 o2 L1 L2 b hjj h1 h1' h2 h2' hb=> ?_,fun j o1 h1 hg=> ?_⟩
 ·by_cases e:i=j
  ·subst e;rw [Xh.set_same] at h1;rw [Bt.set_same] at h2;cases h1;cases h2;exact hok
  ·rw [Xh.set_ne _ _ e] at h1;exact k.obj j o1 L1 h1 h2
 ·by_cases e:i=j
  ·subst e;rw [Xh.set_same] at h1;rw [Bt.set_same] at h2;cases h1;cases h2
   obtain ⟨o,L,g1,g2,g3⟩:=hblk b hb
   exact s.sep i o L g1 g2 b g3
  ·rw [Xh.set_ne _ _ e] at h1;exact k.sep j o1 L1 h1 h2 b hb
 ·by_cases e:i=j
  ·subst e
   rw [Xh.set_same] at h1;rw [Bt.set_same] at h2;cases h1;cases h2
   rw [Xh.set_ne _ _ hjj] at h1'
   obtain ⟨o,L,g1,g2,g3⟩:=hblk b hb
   obtain ⟨o3,g4,g5,g6⟩:=old j' o2 L2 hjj h1' h2'
   rw [g6]
   exact s.inj i j' o o3 L L2 b hjj g1 g4 g2 g5 g3
  ·rw [Xh.set_ne _ _ e] at h1
   obtain ⟨o3,g4,g5,g6⟩:=old j o1 L1 e h1 h2
   by_cases e':i=j'
   ·subst e'
    rw [Xh.set_same] at h1';rw [Bt.set_same] at h2';cases h1';cases h2'
    intro hc
    obtain ⟨o,L,g1,g2,g3⟩:=hblk b hc
    rw [g6] at hb
    exact s.inj i j o o3 L L1 b e g1 g4 g2 g5 g3 hb
   ·rw [Xh.set_ne _ _ e'] at h1'
    exact k.inj j j' o1 o2 L1 L2 b hjj h1 h1' h2 h2' hb
 ·by_cases e:i=j
  ·subst e;exact ⟨_,Bt.set_same _ _ _⟩
  ·rw [Xh.set_ne _ _ e] at h1;exact k.dom j o1 h1 hg
section
variable {P:Program} {n:Nat} {ops:Array Oper} {rest:List Oper} {K:Ei} {f:Fr} {h:Xh} {o:Oper} {c:Code}
theorem Xr {E:Env} {H:Hp} {β:Bt} {h:Xh} {w:World} (s:Sim E H β h w) (i:Nat) (e:TypeId) (sz:Nat):Sim E H (β.set i (some ⟨.slice none 0 0,0,sz⟩)) ((h.kill i).set i (.row e sz [])) w:=
 s.lay i _ _ (fun b hb=>by cases hb) ⟨rfl,fun x hx=>(by cases hx),fun b hb=>(by cases hb), [],World.ownsRow_nil _ _ _ _,fun u hu=>(by cases hu),fun k j x d hk=>(by simp at hk)⟩
theorem Di (i t:Nat) (e:TypeId) (sz:Nat) (ht:f t= .d (.v (.slice none 0 0))) (hc:XW P n c K (D4 (Ig f i) t (.own i)) ((h.kill i).set i (.row e sz []))):XW P n c K f h:=fun E H β a w hs hf=>by
 by_cases hlt:t<n
 ·refine hc E H _ a w (Xr hs i e sz) ?_
  refine X3 (hf.kill i (some ⟨.slice none 0 0,0,sz⟩)) t ?_
  have e1:=hf.slot t hlt
  rw [ht] at e1
  rw [Es e1]
  exact VS.own (L:=⟨.slice none 0 0,0,sz⟩) (Bt.set_same _ _ _)
 ·refine hc E H _ a w (Xr hs i e sz) ⟨hf.defers,hf.size,fun j hj=> ?_⟩
  have:t≠j:=fun e=>hlt (e ▸ hj)
  simp only [D4,Cp this,cond_false]
  exact (hf.kill i (some ⟨.slice none 0 0,0,sz⟩)).slot j hj
theorem Axj (l:List S) (k:Nat) (s:S) (j:Nat):(l.set k s)[j]? =if k=j∧j<l.length then some s else l[j]? :=by
 rw [List.getElem?_set]
 by_cases e:k=j
 ·subst e
  rw [if_pos rfl]
  by_cases h:k<l.length
  ·rw [if_pos h,if_pos ⟨rfl,h⟩]
  ·rw [if_neg h,if_neg (fun e=>h e.2),List.getElem?_eq_none (by omega)]
 ·rw [if_neg e,if_neg (fun h=>e h.1)]
theorem Kx (i b k:Nat) (e:TypeId) (sz:Nat) {l l':List S} (hb:h b=some (.box l)) (hk:l[k]? =some (.d (.v (.slice none 0 0)))) (hib:i≠b) (hl':(S.killL i l).set k (.own i)=l')
  (hc:XW P n c K (Ig f i) (((h.kill i).set i (.row e sz [])).set b (.box l'))):XW P n c K f h:=fun E H β a w hs hf=>by
 subst hl'
 have s2:=Xr hs i e sz
 have hb2:((h.kill i).set i (.row e sz [])) b=some (.box (S.killL i l)):=by rw [Xh.set_ne _ _ hib,Xh.kill_ne _ hib,hb];rfl
 refine hc E H _ a w ?_ (hf.kill i (some ⟨.slice none 0 0,0,sz⟩))
 cases hL:(β.set i (some ⟨.slice none 0 0,0,sz⟩)) b with
 |none=>
  refine ⟨s2.below,s2.ext,s2.new,s2.imm,fun j o1 L1 h1 h2=> ?_,fun j o1 L1 h1 h2=> ?_,fun j j' o1 o2 L1 L2 q hjj h1 h1' h2 h2'=> ?_,fun j o1 h1 hg=> ?_⟩
  ·by_cases e:b=j
   ·subst e;rw [hL] at h2;cases h2
   ·rw [Xh.set_ne _ _ e] at h1;exact s2.obj j o1 L1 h1 h2
  ·by_cases e:b=j
   ·subst e;rw [hL] at h2;cases h2
   ·rw [Xh.set_ne _ _ e] at h1;exact s2.sep j o1 L1 h1 h2
  ·by_cases e:b=j
   ·subst e;rw [hL] at h2;cases h2
   ·rw [Xh.set_ne _ _ e] at h1
    by_cases e':b=j'
    ·subst e';rw [hL] at h2';cases h2'
    ·rw [Xh.set_ne _ _ e'] at h1';exact s2.inj j j' o1 o2 L1 L2 q hjj h1 h1' h2 h2'
  ·by_cases e:b=j
   ·subst e;rw [Xh.set_same] at h1;cases h1;cases hg
   ·rw [Xh.set_ne _ _ e] at h1;exact s2.dom j o1 h1 hg
 |some L=>
  have ok:=s2.obj b _ L hb2 hL
  obtain ⟨h1,h0,us,t,h2,h3,h4⟩:=ok
  refine s2.turn (o:= .box (S.killL i l)) hb2 hL rfl s2.below (fun _ _=>rfl) ⟨h1,by rw [List.length_set];exact h0,us,t,h2,by rw [List.length_set];exact h3,fun j u s hu hs'=> ?_⟩
  rw [Axj] at hs'
  split at hs'
  ·rename_i hkj
   obtain ⟨rfl,hlt⟩:=hkj
   cases hs'
   have:=h4 k u (.d (.v (.slice none 0 0))) hu (by rw [S.killL_get,hk];simp [S.kill])
   rw [Es this]
   exact VS.own (L:=⟨.slice none 0 0,0,sz⟩) (Bt.set_same _ _ _)
  ·exact h4 j u s hu hs'
theorem Vz {i:Nat} {t ty:TypeId} {sz:Nat} {x:Operand} {hi:Option Operand} {l:List (List D)} {m:Nat} (ho:o.op= .slice t x none hi none) (hx:ev f x= .own i) (hi':h i=some (.row ty sz l)) (hf:elB P t sz=true)
  (hhi:Bd (ev f) hi l.length m) (hm:m≤l.length):Step P n o f h (.own i) (Ig f i) ((h.kill i).set i (.row ty sz (l.take m))):=by
 intro E H β a w hs hfv hop
 have g:=hop x (by rw [ho];simp [Op.operands])
 rw [hx] at g
 obtain ⟨L,hL,hv⟩:=Jo g
 obtain ⟨el,hu,hpos,hsz⟩:=elB.parts hf
 obtain ⟨h1,hz,hvb,us,hown,hone,hc⟩:=hs.obj i _ L hi' hL
 have hown0:=hown
 obtain ⟨hlen,hcase⟩:=hown
 have hcap:∃A c,L.v= .slice A l.length c∧l.length≤c∧((A=none∧c=0)∨∃g,A=some ⟨g,0,none⟩):=by
  rcases hcase with ⟨hn,h0⟩|⟨g,cap,cur,e1,e2,e3,e4,e5,e6,e7⟩
  ·exact ⟨none,0,by rw [hn,h0],by omega, .inl ⟨rfl,rfl⟩⟩
  ·exact ⟨_,cap,e1,e4, .inr ⟨g,rfl⟩⟩
 obtain ⟨A,c,hLv,hlc,hA⟩:=hcap
 have hbounds:(Instr.sliceBounds true l.length c (none:Option Value) (hi.map a.eval) none).run P w= .ok (0,m,c) w:=
  Nq _ _ _ _ _ _ (.inl ⟨rfl,rfl⟩) (hhi.val fun y hy=>hop y (by rw [ho,hy];simp [Op.operands])) (Nat.zero_le _) (by omega) w
 have hrun:(execOp a.eval o).run P w= .ok (.value (.slice A m c)) w:=by
  unfold execOp
  simp only [ho,hv,hLv,Instr.sliceAt,Option.map_none,Sem.run_bind,run_underlying hu,Result.andThen_ok,Instr.slice,hbounds,hsz,Sem.run_pure,Nat.sub_zero,Nat.zero_mul]
  rcases hA with ⟨rfl,rfl⟩|⟨g,rfl⟩
  ·simp
  ·split<;>simp [Go.WideShapes.add_plain]
 unfold Oper.wp
 rw [hrun]
 have hblk:(Value.slice A m c).ownBlock=L.v.ownBlock:=by rw [hLv];rcases hA with ⟨rfl,_⟩|⟨g,rfl⟩<;>rfl
 have hlt:(l.take m).length=m:=by rw [List.length_take];omega
 refine ⟨H,β.set i (some ⟨.slice A m c,L.b,sz⟩), .slice A m c,rfl,hs.lay i _ _ (fun b hb=> ?_) ?_,hfv.kill i _,VS.own (L:=⟨.slice A m c,L.b,sz⟩) (Bt.set_same _ _ _)⟩
 ·refine ⟨_,L,hi',hL, ?_⟩
  simp only [XO.blk] at hb ⊢
  rw [←hblk];exact hb
 ·refine ⟨rfl,fun x hx=>hz x (List.mem_of_mem_take hx),fun b hb=>hvb b (by rw [←hblk];exact hb),us.take (m*sz),⟨?_, ?_⟩,fun u hu'=>hone u (List.mem_of_mem_take hu'),fun k j x d hk hj=> ?_⟩
  ·rw [List.length_take,hlt,hlen]
   exact Nat.min_eq_left (Nat.mul_le_mul_right _ hm)
  ·rw [hlt]
   rcases hcase with ⟨hn,h0⟩|⟨g,cap,cur,e1,e2,e3,e4,e5,e6,e7⟩
   ·rw [hn] at hLv
    injection hLv with q1 q2 q3
    subst q1 q3
    have:m=0:=by omega
    subst this
    exact .inl ⟨rfl,rfl⟩
   ·rw [e1] at hLv
    injection hLv with q1 q2 q3
    subst q1 q3
    refine .inr ⟨g,cap,cur,rfl,e2,e3,by omega,e5,e6, ?_⟩
    rw [←e7,List.take_take,Nat.min_eq_left (Nat.mul_le_mul_right _ hm)]
  ·have hkm:k<m:=by
    have:=(List.getElem?_eq_some_iff.1 hk).1
    omega
   rw [List.getElem?_take,if_pos hkm] at hk
   obtain ⟨u,h5,h6⟩:=hc k j x d hk hj
   refine ⟨u, ?_,h6⟩
   rw [List.getElem?_take,if_pos]
   ·exact h5
   ·have hjl:j<sz:=by
     have e1:=hz x (List.mem_of_getElem? hk)
     have e2:=(List.getElem?_eq_some_iff.1 hj).1
     omega
    calc k*sz+j<k*sz+sz:=by omega
     _=(k+1)*sz:=by rw [Nat.add_mul,Nat.one_mul]
     _≤m*sz:=Nat.mul_le_mul_right _ hkm
inductive FnS:S→FuncId→List S→List S→Prop where
 |s {F:FuncId} {ps cs:List S}:FnS (.fn F ps cs) F ps cs
 |d {F:FuncId} {pd cd:List D}:FnS (.d (.fn F pd cd)) F (pd.map S.d) (cd.map S.d)
theorem FnS.vs {H:Hp} {β:Bt} {u:Value} {s:S} {F:FuncId} {ps cs:List S} (hs:FnS s F ps cs) (hv:VS H β u s):VS H β u (.fn F ps cs):=by
 cases hs with
 |s=>exact hv
 | @d _ pd cd=>
  obtain ⟨A,C,rfl,h1,h2,h3,h4⟩:=Aq8 (E1 hv)
  refine .fn F A C _ _ (by simpa using h1) (by simpa using h2) (fun i x s hx hs=> ?_) (fun i x s hx hs=> ?_)
  ·rw [List.getElem?_map] at hs
   cases hp:pd[i]? with
   |none=>rw [hp] at hs;cases hs
   |some d=>rw [hp] at hs;cases hs;exact .d (h3 i x d hx hp)
  ·rw [List.getElem?_map] at hs
   cases hp:cd[i]? with
   |none=>rw [hp] at hs;cases hs
   |some d=>rw [hp] at hs;cases hs;exact .d (h4 i x d hx hp)
def L3 (P:Program) (n:Nat) (fn:Func) (f:Fr) (h:Xh) (s:S):Prop:=∀E H β a w,Sim E H β h w→FV n H β a f→∃u,(results fn a.tmps).run P w= .ok u w∧VS H β u s
theorem rs0 {fn:Func} {s:S} (hr:fn.results= #[]) (hs:s= .any):L3 P n fn f h s:=fun E H β a w _ _=>⟨.tuple #[],by rw [Ja,hr];simp,by rw [hs];exact .any _⟩
theorem rs1 {fn:Func} {rv:ResultVar} {d:D} (hr:fn.results= #[rv]) (h1:RV P n f h rv d):L3 P n fn f h (.d d):=fun E H β a w hs hf=>by
 obtain ⟨u,e1,v1⟩:=h1 E H β a w hs hf
 refine ⟨u, ?_, .d v1⟩
 rw [Ja,hr]
 simp [e1]
def Alw (ss:List S):Fr:=fun t=>
 match ss[t]? with
 |some s=>s
 |none=> .d (.v undef)
def Aqg (P:Program) (n:Nat) (ops:Array Oper) (rest:List Oper) (K:Ei) (dst:Option Tmp) (fn:Func) (n' G:Nat) (u:Array Value):Ei
 | .normal,f,h=>∃s l,h G=some (.ghost u l)∧L3 P n' fn f h s∧XL P n ops rest K (Ca (mkF l) dst s) h
 | .ret,f,h=>∃s l,h G=some (.ghost u l)∧L3 P n' fn f h s∧XL P n ops rest K (Ca (mkF l) dst s) h
 |_,_,_=>False
theorem G0 {dst:Option Tmp} {fn:Func} {n' G:Nat} {u:Array Value} {f':Fr} {h':Xh} {s:S} {l:List (Nat × S)} (hG:h' G=some (.ghost u l)) (hr:L3 P n' fn f' h' s) (hk:XL P n ops rest K (Ca (mkF l) dst s) h'):
  Aqg P n ops rest K dst fn n' G u .normal f' h'∧Aqg P n ops rest K dst fn n' G u .ret f' h':=⟨⟨s,l,hG,hr,hk⟩,⟨s,l,hG,hr,hk⟩⟩
theorem As8 {l:List (Nat × S)} {t:Nat}:mkF l t= .any∨(t,mkF l t)∈l:=by
 induction l with
 |nil=>exact .inl rfl
 |cons p l ih=>
  obtain ⟨t',s⟩:=p
  by_cases e:t'=t
  ·subst e
   right
   have:mkF ((t',s)::l) t'=s:=by simp only [mkF,D4,Cc,cond_true]
   rw [this]
   exact List.mem_cons_self
  ·have:mkF ((t',s)::l) t=mkF l t:=by simp only [mkF,D4,Cp e,cond_false]
   rw [this]
   rcases ih with h|h
   ·exact .inl h
   ·exact .inr (List.mem_cons_of_mem _ h)
theorem XL.inl {x:Operand} {args:Array Operand} {tys:Array TypeId} {F:FuncId} {ps cs:List S} {fn:Func} {n':Nat} (G:Nat) (l:List (Nat × S)) (ho:o.op= .call {callee:= .value x,args:=args,argTypes:=tys})
  (hw:Cv ops f n o.guard=some true) (hx:FnS (ev f x) F ps cs) (hcl:Callable P F) (hf:P.funcs[F]? =some fn) (hb:fn.body=some c) (hn:fn.ntmps=n') (hlen:ps.length+args.size+cs.length≤n')
  (hl:∀p∈l,p.1<n∧f p.1=p.2)
  (hc:∀u,XW P n' c (Aqg P n ops rest K o.dst fn n' G u) (Ig (Alw (ps++args.toList.map (ev f)++cs)) G) ((h.kill G).set G (.ghost u (S.killG G l)))):XL P n ops (o::rest) K f h:=by
 intro hin E H β a w hs hfv
 rw [List.all_cons,Bool.and_eq_true] at hin
 have hop:=hfv.operands hin.1
 have hd:=hin.1
 unfold inN at hd
 rw [Bool.and_eq_true] at hd
 have hop':∀y∈args,VS H β (a.eval y) (ev f y):=fun y hy=>hop y (by rw [ho];simp [Op.operands,Call.operands,hy])
 have hxv:=hop x (by rw [ho];simp [Op.operands,Call.operands])
 obtain ⟨A,C,hA,hA1,hC1,hA2,hC2⟩:=Ajw (hx.vs hxv)
 have hrun:(execOp a.eval o).run P w= .ok (.enter F (A++args.map a.eval++C)) w:=by
  have:=hcl.run (A++args.map a.eval++C) w
  unfold execOp
  simp only [ho,resolve,hA,Deferred.ofValue,Sem.run_bind,Sem.run_pure,Result.andThen_ok,invoke]
  exact this
 unfold wpList
 rw [if_pos (Kl hfv hw)]
 refine .inl (Is (K:=fun a' w'=>wpList P ops (Afp E n K) rest a' w') ?_ (fun _ _ h=>h))
 unfold Oper.wp
 rw [hrun]
 let L0:Option Loc:=some ⟨.slice none 0 0,0,0⟩
 have hvs:∀(i:Nat) (y:Value) (s:S),(A++args.map a.eval++C)[i]? =some y→(ps++args.toList.map (ev f)++cs)[i]? =some s→VS H β y s:=by
  intro i y s hy hd
  by_cases h1:i<ps.length
  ·rw [List.append_assoc,List.getElem?_append_left h1] at hd
   rw [Array.append_assoc,Array.getElem?_append_left (by omega)] at hy
   exact hA2 i y s hy hd
  ·by_cases h2:i<ps.length+args.size
   ·rw [List.append_assoc,List.getElem?_append_right (by omega),List.getElem?_append_left (by simp;omega)] at hd
    rw [Array.append_assoc,Array.getElem?_append_right (by omega),Array.getElem?_append_left (by simp;omega),hA1] at hy
    rw [List.getElem?_map,Array.getElem?_toList] at hd
    rw [Array.getElem?_map] at hy
    cases hq:args[i - ps.length]? with
    |none=>rw [hq] at hd;cases hd
    |some q=>
     rw [hq] at hd hy
     cases hd;cases hy
     exact hop' q (Array.mem_of_getElem? hq)
   ·rw [List.getElem?_append_right (by simp;omega)] at hd
    rw [Array.getElem?_append_right (by simp;omega)] at hy
    have e:(A++args.map a.eval).size=(ps++args.toList.map (ev f)).length:=by simp [hA1]
    rw [e] at hy
    exact hC2 _ y s hy hd
 have hsz:(A++args.map a.eval++C).size=(ps++args.toList.map (ev f)++cs).length:=by simp [hA1,hC1]
 have hsz2:(A++args.map a.eval++C).size=ps.length+args.size+cs.length:=by simp [hA1,hC1];omega
 generalize hvse:A++args.map a.eval++C=vs at*
 generalize hsse:ps++args.toList.map (ev f)++cs=ss at*
 have hcal:Calls P F vs w fun e w'=>∃v,e= .returned v∧wpList P ops (Afp E n K) rest (a.put o.dst v) w':=by
  refine calls_of_wp hf hb ?_
  have s2:Sim E H (β.set G L0) ((h.kill G).set G (.ghost a.tmps (S.killG G l))) w:=by
   refine hs.lay G _ _ (fun b hb=>by cases hb) fun t s hm=> ?_
   obtain ⟨s',h1,rfl⟩:=S.killG_mem hm
   obtain ⟨h2,h3⟩:=hl _ h1
   have:=hfv.slot t h2
   simp only at h3
   rw [h3] at this
   exact this.kill G _
  have f2:FV n' H (β.set G L0) {tmps:=vs++Array.replicate (fn.ntmps - vs.size) undef,defers:= []} (Ig (Alw ss) G):=by
   refine FV.kill ⟨rfl,by simp [hn];omega,fun t ht=> ?_⟩ G L0
   unfold Alw
   cases hd:ss[t]? with
   |none=>
    have hge:ss.length≤t:=List.getElem?_eq_none_iff.1 hd
    have:(vs++Array.replicate (fn.ntmps - vs.size) undef).getD t undef=undef:=by
     rw [Array.getD_eq_getD_getElem?,Array.getElem?_append_right (by omega)]
     rw [Array.getElem?_replicate]
     split<;>rfl
    show VS H β ((vs++Array.replicate (fn.ntmps - vs.size) undef).getD t undef) (.d (.v undef))
    rw [this]
    exact .d (.v _)
   |some s=>
    have hlt:t<ss.length:=(List.getElem?_eq_some_iff.1 hd).1
    have hx : vs[t]? = some (vs[t]'(by omega)) := Array.getElem?_eq_getElem (by omega)
    have : (vs ++ Array.replicate (fn.ntmps - vs.size) undef).getD t undef = vs[t]'(by omega) := by
     rw [Array.getD_eq_getD_getElem?,Array.getElem?_append_left (by omega),hx]
     rfl
    show VS H β ((vs++Array.replicate (fn.ntmps - vs.size) undef).getD t undef) s
    rw [this]
    exact hvs t _ s hx hd
  refine wp_mono (hc a.tmps E H _ _ w s2 f2) ?_
  rintro e a' w' ⟨H',β',f',h',h1,h2,h3⟩
  have fin:(∃s l,h' G=some (.ghost a.tmps l)∧L3 P n' fn f' h' s∧XL P n ops rest K (Ca (mkF l) o.dst s) h')→
    a'.defers= []∧∃v,(results fn a'.tmps).run P w'= .ok v w'∧∃v',Ending.returned v= .returned v'∧wpList P ops (Afp E n K) rest (a.put o.dst v') w':=by
   rintro ⟨s,l',g1,g2,g3⟩
   obtain ⟨v,g4,g5⟩:=g2 E H' β' a' w' h1 h2
   refine ⟨h2.defers,v,g4,v,rfl, ?_⟩
   obtain ⟨L,hL⟩:=h1.dom G _ g1 rfl
   have hok:∀t s,(t,s)∈l'→VS H' β' (a.tmps.getD t undef) s:=h1.obj G _ L g1 hL
   have fv : FV n H' β' a (mkF l') := ⟨hfv.defers, hfv.size, fun t _ => by
    rcases As8 (l:=l') (t:=t) with e|e
    ·rw [e];exact .any _
    ·exact hok _ _ e⟩
   exact g3 hin.2 E H' β' _ w' h1 (fv.put g5 o.dst hd.2)
  cases e with
  |normal=>exact fin h3
  |ret=>exact fin h3
  |_=>exact h3.elim
 refine hcal.mono ?_
 rintro e w' ⟨v,rfl,h⟩
 exact h
end
end Go.Proofs.YtcihalbakenleaaGreat
namespace Go.Proofs.YtcihalbakenleaaGreat
open Go.RowKit
def Tp.e (t:Tp):Int:=t.first+t.count
def Tp.ok (t:Tp):Prop:=0≤t.first∧t.first≤128∧1≤t.count∧t.count≤128∧1≤t.actual∧t.actual≤32∧1≤t.normal∧t.normal≤32
def Tp.has (t:Tp) (n:Int):Prop:=t.first≤n∧n - t.first<t.count
instance (t:Tp) (n:Int):Decidable (t.has n):=by unfold Tp.has;exact inferInstance
theorem It (t:Tp) (h:t.ok):XC Tryz.prog 166 [.agg (Tp.c t)] (fun r=>r=dI t.e):=by
 have h2:=h
 simp only [Tp.ok] at h2
 exact Ao Adq Tryz.func166 R R lb<|zr<|XL.step R (At 1 (l:= [.d (dI t.first), .d (dI t.count), .d (dI t.actual), .d (dI t.normal)]) R R (by kernel_rfl))<|za R R<|znr<|zp (Aa R R Bv)<|zp (Ab R R Ai R R)<|zp (Aa R R Dn)<|zp (Ab R R Ai R R)<|zp (Aj R R R (by omega) (by omega))<|za R R<|zn<|zt<|z1 R R (rI R)
theorem Ub (t:Tp) (n:Int) (h:t.ok) (h0:0≤n) (h1:n≤128):XC Tryz.prog 140 [.agg (Tp.c t), .v (.int .i64 n)] (fun r=>r=dB (decide (t.has n))):=by
 have h2:=h
 simp only [Tp.ok] at h2
 refine Ao Aef Tryz.func140 R R lb<|zr<|XL.step R (At 2 (l:= [.d (dI t.first), .d (dI t.count), .d (dI t.actual), .d (dI t.normal)]) R R (by kernel_rfl))<|za R R<|znr<|zm R R<|zp (Aa R R Bv)<|zp (Ab R R Ai R R)<|zp (Dr R R R)<|zm R R<|?_
 refine XL.dec 9 R (fun g9=> ?_) (fun g9=> ?_)
 exact zm R R<|zp (Aa R R Bv)<|zp (Ab R R Ai R R)<|zp (C9 R R R (by omega) (by omega))<|zp (Aa R R Dn)<|zp (Ab R R Ai R R)<|zp (As R R R)<|zq R R R<|za R R<|zn<|zt<|z1 R R (rB (by rw [decide_eq_decide];unfold Tp.has;omega))
 exact zk 7 R<|zq R R R<|za R R<|zn<|zt<|z1 R R (rB (by rw [eq_comm,decide_eq_false_iff_not];unfold Tp.has;omega))
def Lt (a b:Tp):Int:=if a.first≠b.first then (if a.first<b.first then -1 else 1) else if a.count≠b.count then (if b.count<a.count then -1 else 1) else 0
theorem Ap0 (a b:Tp):XC Tryz.prog 168 [.agg (Tp.c a), .agg (Tp.c b)] (fun r=>r=dI (Lt a b)):=by
 refine Ao Ado Tryz.func168 R R lb<|zr<|XL.step R (At 2 (l:= [.d (dI a.first), .d (dI a.count), .d (dI a.actual), .d (dI a.normal)]) R R (by kernel_rfl))<|XL.step R (At 3 (l:= [.d (dI b.first), .d (dI b.count), .d (dI b.actual), .d (dI b.normal)]) R R (by kernel_rfl))<|za R R<|zn<|zs<|zr<|zp (Aa R R Bv)<|zp (Ab R R Ai R R)<|zp (Aa R R Bv)<|?_
 refine zp (Ab R R Ai R R)<|zp (Be R R R)<|zn<|?_
 refine zd R (fun c9=> ?_) (fun c9=> ?_)
 refine zs<|zr<|zp (Aa R R Bv)<|zp (Ab R R Ai R R)<|zp (Aa R R Bv)<|zp (Ab R R Ai R R)<|zp (As R R R)<|zn<|?_
 refine zd R (fun c14=> ?_) (fun c14=> ?_)
 exact zr<|za R R<|zn<|zt<|z1 R R (rI (by rw [Lt,if_pos c9,if_pos c14]))
 exact zi<|zr<|za R R<|zn<|zt<|z1 R R (rI (by rw [Lt,if_pos c9,if_neg c14]))
 refine zi<|zs<|zr<|zp (Aa R R Dn)<|zp (Ab R R Ai R R)<|zp (Aa R R Dn)<|zp (Ab R R Ai R R)<|zp (Be R R R)<|zn<|?_
 refine zd R (fun c19=> ?_) (fun c19=> ?_)
 refine zs<|zr<|zp (Aa R R Dn)<|zp (Ab R R Ai R R)<|zp (Aa R R Dn)<|zp (Ab R R Ai R R)<|zp (Bb R R R)<|zn<|?_
 refine zd R (fun c24=> ?_) (fun c24=> ?_)
 exact zr<|za R R<|zn<|zt<|z1 R R (rI (by rw [Lt,if_neg c9,if_pos c19,if_pos c24]))
 exact zi<|zr<|za R R<|zn<|zt<|z1 R R (rI (by rw [Lt,if_neg c9,if_pos c19,if_neg c24]))
 exact zi<|zr<|za R R<|zn<|zt<|z1 R R (rI (by rw [Lt,if_neg c9,if_neg c19]))
theorem Abh (n:Int):XC Tryz.prog 167 [.v (.int .i64 n)] (fun r=>r=dB (decide (1≤n∧n≤32))):=by
 refine Ao Adp Tryz.func167 R R lb<|zr<|za R R<|znr<|zm R R<|zp (Dr R R R)<|zm R R<|?_
 refine XL.dec 5 R (fun g5=> ?_) (fun g5=> ?_)
 exact zm R R<|zp (Fx R R R)<|zq R R R<|za R R<|zn<|zt<|z1 R R (rB (by rw [decide_eq_decide];omega))
 exact zk 2 R<|zq R R R<|za R R<|zn<|zt<|z1 R R (rB (by rw [eq_comm,decide_eq_false_iff_not];omega))
theorem Aqr {a b:Int} (ha:0≤a) (hb:0<b):Int.gcd b (a % b)=Int.gcd a b:=by
 rw [Int.gcd_comm a b,Int.gcd_comm b (a % b),Int.gcd_comm b a]
 obtain ⟨m,rfl⟩:=Int.eq_ofNat_of_zero_le ha
 obtain ⟨n,rfl⟩:=Int.eq_ofNat_of_zero_le (Int.le_of_lt hb)
 rw [show ((m:Int) % (n:Int))=((m % n:Nat):Int) from by simp]
 simp only [Int.gcd_natCast_natCast]
 rw [Nat.gcd_comm m n, ←Nat.gcd_rec n m]
theorem Aln (a b:Int) (ha:0≤a) (hb:0≤b):XC Tryz.prog 190 [.v (.int .i64 a), .v (.int .i64 b)] (fun r=>r=dI (Int.gcd a b)):=by
 refine Ao Ac4 Tryz.func190 R R lb<|zr<|za R R<|zn<|zs<|Ah<|?_
 refine Ay (α:=Int × Int) (fun p=>0≤p.1∧0≤p.2∧Int.gcd p.1 p.2=Int.gcd a b) (fun p=>mkF [(0, .d (dI p.1)),(1, .d (dI p.2)),(4, .d (dI 0))]) (fun p=>mkH []) (fun p=>p.2.toNat) ((a,b)) (⟨ha,hb,R⟩) ?_ ?_ ?_
 exact fz ⟨sr,sr,sr,trivial⟩
 exact HSub.nil
 intro p hk0
 obtain ⟨h1,h2,h3⟩:=hk0
 refine zs<|zr<|zm R R<|zp (Bb R R R)<|zn<|?_
 refine zd R (fun c6=> ?_) (fun c6=> ?_)
 refine zi<|Ah<|Bm [] (by kernel_rfl) (by kernel_rfl) (by kernel_rfl) (by decide)<|ym R R<|ym R R<|ym R R<|yp (D1 R R R (by omega) (by omega))<|ya R R<|ya R R<|?_
 refine ChK.nil ⟨by kernel_rfl, ?_⟩
 refine Io<|?_
 exact Ak ((p.2,p.1 % p.2)) (⟨h2,Int.emod_nonneg _ (by omega),by rw [←h3];exact Aqr h1 c6⟩) (by have:=Int.emod_lt_of_pos p.1 c6;have:=Int.emod_nonneg p.1 (show p.2≠0 by omega);simp only;omega) (fz ⟨sr,sr,sr,trivial⟩) (HSub.nil)
 have he:p.2=0:=by omega
 have hg:p.1=(Int.gcd a b:Int):=by rw [←h3,he,Int.gcd_zero_right];omega
 exact Ap<|zr<|zm R R<|za R R<|zn<|zt<|z1 R R (rI hg)
theorem Mg {a b:Int} (h:0≤a) (h1:1≤b):a≤a*b:=by
 have:=Int.mul_le_mul_of_nonneg_left h1 h
 omega
def hits (l:List Tp) (n:Int):Nat:=(l.filter fun t=>decide (t.has n)).length
def Gm (n:Int) (p:Int × Int) (t:Tp):Int × Int:=
 if t.has n then (p.1*t.normal / (Int.gcd (p.1*t.normal) (p.2*t.actual):Int),p.2*t.actual / (Int.gcd (p.1*t.normal) (p.2*t.actual):Int)) else p
def Bf (l:List Tp) (n:Int):Int × Int:=l.foldl (Gm n) (1,1)
theorem I3 (l:List Tp) (t:Tp) (n:Int):hits (l++ [t]) n=hits l n+(if t.has n then 1 else 0):=by
 unfold hits
 rw [List.filter_append,List.length_append]
 by_cases h:t.has n<;>simp [h]
theorem Pf (l:List Tp) (k:Nat) (n:Int):hits (l.take k) n≤hits l n:=by
 unfold hits
 exact ((List.take_sublist k l).filter _).length_le
theorem Zm (l:List Tp) (k:Nat) (n:Int):hits (l.drop k) n≤hits l n:=by
 unfold hits
 exact ((List.drop_sublist k l).filter _).length_le
theorem Nh (l:List Tp) (t:Tp) (n:Int):Bf (l++ [t]) n=Gm n (Bf l n) t:=by
 unfold Bf
 rw [List.foldl_append]
 rfl
theorem Xq {l:List Tp} (h:∀t∈l,t.ok) (k:Nat):∀t∈l.take k,t.ok:=fun t ht=>h t (List.mem_of_mem_take ht)
theorem Ai1 {l:List Tp} (h:∀t∈l,t.ok) (k:Nat):∀t∈l.drop k,t.ok:=fun t ht=>h t (List.mem_of_mem_drop ht)
theorem No {a b:Int} (ha:1≤a) (hb:1≤b):1≤a / (Int.gcd a b:Int)∧a / (Int.gcd a b:Int)≤a∧1≤(Int.gcd a b:Int)∧(Int.gcd a b:Int)≤a:=by
 have hg:0<Int.gcd a b:=Int.gcd_pos_of_ne_zero_left b (by omega)
 have hd:(Int.gcd a b:Int) ∣ a:=Int.gcd_dvd_left a b
 have hle:(Int.gcd a b:Int)≤a:=Int.le_of_dvd (by omega) hd
 refine ⟨?_,Int.ediv_le_self _ (by omega),by omega,hle⟩
 exact (Int.le_ediv_iff_mul_le (by omega)).2 (by omega)
theorem Af0 {n:Int} {p:Int × Int} {t:Tp} (ht:t.ok) {B:Int} (h1:1≤p.1) (h2:p.1≤B) (h3:1≤p.2) (h4:p.2≤B):
  1≤(Gm n p t).1∧(Gm n p t).1≤(if t.has n then B*32 else B)∧1≤(Gm n p t).2∧(Gm n p t).2≤(if t.has n then B*32 else B):=by
 unfold Gm
 obtain ⟨_,_,_,_,q1,q2,q3,q4⟩:=ht
 split
 ·have e1:1≤p.1*t.normal:=Int.le_trans h1 (Mg (by omega) q3)
  have e2:1≤p.2*t.actual:=Int.le_trans h3 (Mg (by omega) q1)
  have e3:p.1*t.normal≤B*32:=Int.mul_le_mul h2 q4 (by omega) (by omega)
  have e4:p.2*t.actual≤B*32:=Int.mul_le_mul h4 q2 (by omega) (by omega)
  have g1:=No e1 e2
  have g2:=No e2 e1
  rw [Int.gcd_comm] at g2
  exact ⟨g1.1,by omega,g2.1,by omega⟩
 ·exact ⟨h1,h2,h3,h4⟩
theorem L6 {α:Type} {p:List α→Prop} (h0:p []) (hs:∀l a,p l→p (l++ [a])) (l:List α):p l:=by
 have:∀k,k≤l.length→p (l.take k):=by
  intro k
  induction k with
  |zero=>intro _;rw [List.take_zero];exact h0
  |succ k ih=>
   intro hk
   have e:l[k]? =some l[k]:=List.getElem?_eq_getElem (by omega)
   rw [Bp e]
   exact hs _ _ (ih (by omega))
 have h:=this l.length (Nat.le_refl _)
 rwa [List.take_length] at h
theorem Se (l:List Tp) (n:Int):(∀t∈l,t.ok)→1≤(Bf l n).1∧(Bf l n).1≤32 ^ hits l n∧1≤(Bf l n).2∧(Bf l n).2≤32 ^ hits l n:=by
 refine L6 (p:=fun l=>(∀t∈l,t.ok)→1≤(Bf l n).1∧(Bf l n).1≤32 ^ hits l n∧1≤(Bf l n).2∧(Bf l n).2≤32 ^ hits l n) (fun _=>by simp [Bf,hits]) (fun l t ih hl=> ?_) l
 obtain ⟨h1,h2,h3,h4⟩:=ih (fun t ht=>hl t (List.mem_append_left _ ht))
 have:=Af0 (n:=n) (hl t (List.mem_append_right _ (List.mem_singleton.2 rfl))) h1 h2 h3 h4
 rw [Nh,I3]
 split at this
 ·rename_i h;rw [if_pos h,Int.pow_succ];exact this
 ·rename_i h;rw [if_neg h];exact this
theorem U2 {l:List Tp} {n:Int} (hl:∀t∈l,t.ok) (h:hits l n≤3):1≤(Bf l n).1∧(Bf l n).1≤32768∧1≤(Bf l n).2∧(Bf l n).2≤32768:=by
 have:=Se l n hl
 have e:(32:Int) ^ hits l n≤32768:=by
  generalize hits l n=k at*
  match k,h with
  |0,_=>decide
  |1,_=>decide
  |2,_=>decide
  |3,_=>decide
  |k+4,h=>omega
 omega
theorem Yx {l:List Tp} {k:Nat} {t:Tp} {n:Int} (h:l[k]? =some t) (ht:t.has n):Bf (l.take (k+1)) n=((Bf (l.take k) n).1*t.normal / (Int.gcd ((Bf (l.take k) n).1*t.normal) ((Bf (l.take k) n).2*t.actual):Int),(Bf (l.take k) n).2*t.actual / (Int.gcd ((Bf (l.take k) n).1*t.normal) ((Bf (l.take k) n).2*t.actual):Int)):=by
 rw [Bp h,Nh,Gm,if_pos ht]
theorem Wh {l:List Tp} {k:Nat} {t:Tp} {n:Int} (h:l[k]? =some t) (ht:¬t.has n):Bf (l.take (k+1)) n=Bf (l.take k) n:=by
 rw [Bp h,Nh,Gm,if_neg ht]
theorem Aki (l:List Tp) (n:Int) (hl:∀t∈l,t.ok) (hh:hits l n≤3) (h0:0≤n) (h1:n≤128):XC Tryz.prog 181 [.sl 4 (l.map Tp.c), .v (.int .i64 n)] (fun r=>r= .tup [dI (Bf l n).1,dI (Bf l n).2]):=by
 refine Ao Adc Tryz.func181 R R lb<|zr<|za R R<|za R R<|znr<|za R R<|za R R<|zn<|zs<|zr<|zm R R<|XL.len R R R Tryz.underlying23 fun hl10=>zm R R<|zn<|?_
 refine Ah<|?_
 refine Ay (α:=Nat) (fun k=>k≤l.length) (fun k=>mkF [(1, .d (dI n)),(4, .d (dI (Bf (l.take k) n).1)),(5, .d (dI (Bf (l.take k) n).2)),(9, .d (.sl 4 (l.map Tp.c))),(10, .d (dI l.length)),(11, .d (dI k))]) (fun k=>mkH []) (fun k=>l.length - k) (0) (Nat.zero_le _) ?_ ?_ ?_
 exact fz ⟨sr,sr,sr,sr,sr,sr,trivial⟩
 exact HSub.nil
 intro k hk0
 refine zr<|zp (As R R R)<|zn<|zs<|?_
 refine zd R (fun c12=> ?_) (fun c12=> ?_)
 have hk0a:k<l.length:=by omega
 obtain ⟨x0,hx0⟩:=Au hk0a
 have hok:x0.ok:=hl x0 (List.mem_of_getElem? hx0)
 have hb:=U2 (n:=n) (Xq hl k) (Nat.le_trans (Pf l k n) hh)
 have hok2:=hok
 simp only [Tp.ok] at hok2
 have e1:1≤(Bf (l.take k) n).1*x0.normal:=Int.le_trans hb.1 (Mg (by omega) (by omega))
 have e2:1≤(Bf (l.take k) n).2*x0.actual:=Int.le_trans hb.2.2.1 (Mg (by omega) (by omega))
 have e3:(Bf (l.take k) n).1*x0.normal≤32768*32:=Int.mul_le_mul hb.2.1 (by omega) (by omega) (by omega)
 have e4:(Bf (l.take k) n).2*x0.actual≤32768*32:=Int.mul_le_mul hb.2.2.2 (by omega) (by omega) (by omega)
 have g1:=No e1 e2
 refine zi<|zs<|Ah<|zr<|zp (Am R R R D9 hx0)<|zp (Ae (s':= .d (.agg (Tp.c x0))) (Av R R Cb lb) (by kernel_rfl))<|XL.step R (A0 7 (l:= [.d (dI 0), .d (dI 0), .d (dI 0), .d (dI 0)]) R Db (by kernel_rfl))<|XL.step R (Ag (l':= [.d (dI x0.first), .d (dI x0.count), .d (dI x0.actual), .d (dI x0.normal)]) R R R R Ej R lb (by kernel_rfl))<|znr<|?_
 refine zp (Ae (s':= .d (.agg (Tp.c x0))) (Ac (Ad R R Cb R lb)) (by kernel_rfl))<|zm R R<|XL.call1 R R (Ub _ _ (by assumption) (by omega) (by omega)) R<|zn<|?_
 refine zd R (fun c17=> ?_) (fun c17=> ?_)
 refine zs<|Bm [] (by kernel_rfl) (by kernel_rfl) (by kernel_rfl) (by decide)<|ym R R<|yp (Aa R R Pj)<|yp (Ab R R Ai R R)<|yp (H7 R R R (by omega) (by omega))<|ym R R<|yp (Aa R R M3)<|yp (Ab R R Ai R R)<|yp (H7 R R R (by omega) (by omega))<|ya R R<|ya R R<|?_
 refine ChK.nil ⟨by kernel_rfl, ?_⟩
 refine zr<|zm R R<|zm R R<|XL.call1 R R (Aln _ _ (by omega) (by omega)) R<|za R R<|zn<|Bm [] (by kernel_rfl) (by kernel_rfl) (by kernel_rfl) (by decide)<|ym R R<|ym R R<|yp (Gy R R R (by omega) (by omega) (by omega))<|ym R R<|ym R R<|yp (Gy R R R (by omega) (by omega) (by omega))<|ya R R<|?_
 refine ya R R<|?_
 refine ChK.nil ⟨by kernel_rfl, ?_⟩
 refine Af (by kernel_rfl)<|zp (Aj R R R (by omega) (by omega))<|zm R R<|zn<|?_
 exact Ak (k+1) (by omega) (by omega) (fz ⟨sr, .same (sI (by rw [Yx hx0 c17])), .same (sI (by rw [Yx hx0 c17])),sr,sr,sr,trivial⟩) (HSub.nil)
 refine zi<|Af (by kernel_rfl)<|zp (Aj R R R (by omega) (by omega))<|zm R R<|zn<|?_
 exact Ak (k+1) (by omega) (by omega) (fz ⟨sr, .same (sI (by rw [Wh hx0 c17])), .same (sI (by rw [Wh hx0 c17])),sr,sr,sr,trivial⟩) (HSub.nil)
 have hk0b:k=l.length:=by omega
 have ht:l.take k=l:=by rw [hk0b,List.take_length]
 refine Ap<|zr<|zm R R<|zm R R<|za R R<|za R R<|zn<|zt<|?_
 exact Bh R (RV.tmp R R) (RV.tmp R R) (r2 (rI (by rw [ht])) (rI (by rw [ht])))
def Ek (l:List Tp) (n w:Int):Int:=if w<0∨7741440<w then 0 else if w*(Bf l n).1 % (Bf l n).2≠0 then 0 else w*(Bf l n).1 / (Bf l n).2
def El (l:List Tp) (n w:Int):Int:=if w<0∨7741440<w then 2 else if w*(Bf l n).1 % (Bf l n).2≠0 then 16 else 0
theorem Ia {l:List Tp} {n w:Int} (h:w<0∨7741440<w):0=Ek l n w∧2=El l n w:=by simp only [Ek,El,if_pos h];exact ⟨trivial,trivial⟩
theorem Xm {l:List Tp} {n w:Int} (h1:¬w<0) (h2:¬7741440<w) (h:w*(Bf l n).1 % (Bf l n).2≠0):0=Ek l n w∧16=El l n w:=by simp only [Ek,El,if_neg (show ¬(w<0∨7741440<w) by omega),if_pos h];exact ⟨trivial,trivial⟩
theorem Ta {l:List Tp} {n w:Int} (h1:¬w<0) (h2:¬7741440<w) (h:¬w*(Bf l n).1 % (Bf l n).2≠0):w*(Bf l n).1 / (Bf l n).2=Ek l n w∧0=El l n w:=by simp only [Ek,El,if_neg (show ¬(w<0∨7741440<w) by omega),if_neg h];exact ⟨trivial,trivial⟩
theorem Uu {l:List Tp} {n w:Int} (hl:∀t∈l,t.ok) (hh:hits l n≤3):0≤Ek l n w∧Ek l n w≤253671505920:=by
 have hb:=U2 hl hh
 unfold Ek
 split
 ·omega
 ·split
  ·omega
  ·have e1:0≤w*(Bf l n).1:=Int.mul_nonneg (by omega) (by omega)
   have e2:w*(Bf l n).1≤7741440*32768:=Int.mul_le_mul (by omega) hb.2.1 (by omega) (by omega)
   exact ⟨Int.ediv_nonneg e1 (by omega),Int.le_trans (Int.ediv_le_self _ e1) (by omega)⟩
theorem Aa8 (l:List Tp) (n w:Int) (hl:∀t∈l,t.ok) (hh:hits l n≤3) (h0:0≤n) (h1:n≤128):XC Tryz.prog 163 [.sl 4 (l.map Tp.c), .v (.int .i64 n), .v (.int .i64 w)] (fun r=>r= .tup [dI (Ek l n w),dI (El l n w)]):=by
 have hb:=U2 hl hh
 refine Ao Ads Tryz.func163 R R lb<|zr<|za R R<|za R R<|zn<|zs<|zr<|zm R R<|zp (As R R R)<|zm R R<|?_
 refine XL.dec 12 R (fun g12=> ?_) (fun g12=> ?_)
 refine zk 2 R<|zq R R R<|zn<|Aq (by kernel_rfl) R<|zr<|za R R<|za R R<|zn<|zt<|?_
 exact Bh R (RV.tmp R R) (RV.tmp R R) (r2 (rI (Ia (.inl g12)).1) (rI (Ia (l:=l) (n:=n) (.inl g12)).2))
 refine zm R R<|zp (Bb R R R)<|zq R R R<|zn<|?_
 refine zd R (fun c15=> ?_) (fun c15=> ?_)
 refine zr<|za R R<|za R R<|zn<|zt<|?_
 exact Bh R (RV.tmp R R) (RV.tmp R R) (r2 (rI (Ia (.inr c15)).1) (rI (Ia (l:=l) (n:=n) (.inr c15)).2))
 refine zi<|zr<|zm R R<|zm R R<|XL.call1 R R (Aki _ _ (by assumption) (by assumption) (by omega) (by omega)) R<|zm R R<|zp (A6 R R R)<|zp (A6 R R R)<|za R R<|za R R<|zn<|zs<|zs<|?_
 have e1:0≤w*(Bf l n).1:=Int.mul_nonneg (by omega) (by omega)
 have e2:w*(Bf l n).1≤7741440*32768:=Int.mul_le_mul (by omega) hb.2.1 (by omega) (by omega)
 refine Af (by kernel_rfl)<|zm R R<|zm R R<|zp (H7 R R R (by omega) (by omega))<|zm R R<|zp (D1 R R R (by omega) (by omega))<|zp (Be R R R)<|zn<|?_
 refine zd R (fun c27=> ?_) (fun c27=> ?_)
 refine zr<|za R R<|za R R<|zn<|zt<|?_
 exact Bh R (RV.tmp R R) (RV.tmp R R) (r2 (rI (Xm g12 c15 c27).1) (rI (Xm g12 c15 c27).2))
 refine zi<|zr<|zm R R<|zm R R<|zp (H7 R R R (by omega) (by omega))<|zm R R<|zp (Gy R R R (by omega) (by omega) (by omega))<|za R R<|za R R<|zn<|zt<|?_
 exact Bh R (RV.tmp R R) (RV.tmp R R) (r2 (rI (Ta g12 c15 c27).1) (rI (Ta g12 c15 c27).2))
end Go.Proofs.YtcihalbakenleaaGreat
namespace Go.Proofs.YtcihalbakenleaaGreat
open Go.RowKit
def Tp.inR (t:Tp) (n:Int):Prop:=1≤t.count∧t.count≤n∧0≤t.first∧t.first≤n - t.count∧(1≤t.actual∧t.actual≤32)∧(1≤t.normal∧t.normal≤32)∧t.actual≠t.normal
instance (t:Tp) (n:Int):Decidable (t.inR n):=by unfold Tp.inR;exact inferInstance
theorem Tp.inR.ok {t:Tp} {n:Int} (h:t.inR n) (hn:n≤128):t.ok:=by unfold Tp.inR at h;unfold Tp.ok;omega
def C4 (t:Tp):List Tp→List Tp
 | []=> []
 |o::r=>if o.e≤t.first then C4 t r else o::r
def D8 (t:Tp) (s:List Tp):Prop:=s.length=3∨match s with| []=>False|o::_=>o.e<t.e
instance (t:Tp) (s:List Tp):Decidable (D8 t s):=by unfold D8;cases s<;>exact inferInstance
def Iz (p:Option Tp) (t:Tp):Prop:=match p with|some q=>0<Lt q t|none=>False
instance (p:Option Tp) (t:Tp):Decidable (Iz p t):=by unfold Iz;cases p<;>exact inferInstance
def Fc (n:Int):Option Tp→List Tp→List Tp→Int
 |_,_, []=>0
 |p,s,t::l=>if ¬t.inR n then 2 else if Iz p t then 25 else if D8 t (C4 t s) then 21 else Fc n (some t) (t::C4 t s) l
def Ew (l:List Tp) (n:Int):Int:=if n<0∨128<n then 2 else if 16<l.length then 9 else Fc n none [] l
def stk (l:List Tp) (k:Nat):List Tp:=(l.take k).foldl (fun s t=>t::C4 t s) []
def Ni (l:List Tp) (k:Nat):Option Tp:=match k with|0=>none|k+1=>l[k]?
theorem Cd {l:List Tp} {k:Nat} {t:Tp} (h:l[k]? =some t):stk l (k+1)=t::C4 t (stk l k):=by
 unfold stk;rw [Bp h,List.foldl_append];rfl
theorem Fj (l:List Tp) (k:Nat):Ni l (k+1)=l[k]? :=rfl
theorem Ka (t:Tp) (s:List Tp):∀x∈C4 t s,x∈s:=by
 induction s with
 |nil=>exact fun x hx=>hx
 |cons o r ih=>
  intro x hx
  unfold C4 at hx
  split at hx
  ·exact List.mem_cons_of_mem _ (ih x hx)
  ·exact hx
theorem App (t:Tp) (s:List Tp):(C4 t s).length≤s.length:=by
 induction s with
 |nil=>exact Nat.le_refl _
 |cons o r ih=>
  unfold C4
  split
  ·exact Nat.le_trans ih (Nat.le_succ _)
  ·exact Nat.le_refl _
theorem Abo {t o:Tp} {r s:List Tp} (hs:s=o::r) (h:o.e≤t.first):C4 t s=C4 t r:=by rw [hs,C4,if_pos h]
theorem Aiw {t o:Tp} {r s:List Tp} (hs:s=o::r) (h:¬o.e≤t.first):C4 t s=s:=by rw [hs,C4,if_neg h]
theorem Abp {t:Tp} {s:List Tp} (hs:¬(0:Int)<s.reverse.length):C4 t s=s:=by
 have:s= []:=List.eq_nil_of_length_eq_zero (by rw [List.length_reverse] at hs;omega)
 rw [this];rfl
theorem P7 {s:List Tp} (h:(0:Int)<s.reverse.length):∃o r,s=o::r:=by
 cases s with
 |nil=>simp at h
 |cons o r=>exact ⟨o,r,rfl⟩
theorem Nr {s r:List Tp} {o:Tp} (h:s=o::r):s.reverse[s.length - 1]? =some o:=by rw [h];simp
theorem Mu {s r:List Tp} {o:Tp} (h:s=o::r):((s.reverse).length:Int) - 1=((s.length - 1:Nat):Int):=by rw [h];simp
theorem P6 {s r:List Tp} {o:Tp} (h:s=o::r):s.length - 1<s.reverse.length:=by rw [h];simp
theorem Aib {s r:List Tp} {o:Tp} (h:s=o::r):some (XO.row 102 4 ((s.reverse.map Tp.c).take (s.length - 1)))=some (XO.row 102 4 (r.reverse.map Tp.c)):=by
 rw [h, ←List.map_take];simp
theorem J4 {s:List Tp} {t:Tp} {l:List Tp} (h:l=t::s):some (XO.row 102 4 (s.reverse.map Tp.c++ [Tp.c t]))=some (XO.row 102 4 (l.reverse.map Tp.c)):=by
 rw [h];simp
theorem Wm {t:Tp} {s:List Tp} (h:(s.reverse.length:Int)=3):D8 t s:= .inl (by rw [List.length_reverse] at h;omega)
theorem Q9 {t o:Tp} {s r:List Tp} (hs:s=o::r) (h:o.e<t.e):D8 t s:=by subst hs;exact .inr h
theorem Th {t o:Tp} {s r:List Tp} (h3:¬(s.reverse.length:Int)=3) (hs:s=o::r) (h:¬o.e<t.e):¬D8 t s:=by
 subst hs;rw [List.length_reverse] at h3;exact fun k=>k.elim (fun k=>by omega) h
theorem Ra {t:Tp} {s:List Tp} (h3:¬(s.reverse.length:Int)=3) (h:¬(0:Int)<s.reverse.length):¬D8 t s:=by
 have:s= []:=List.eq_nil_of_length_eq_zero (by rw [List.length_reverse] at h;omega)
 subst this;exact fun k=>k.elim (fun k=>by simp at k) fun k=>k
theorem Dt {n:Int} {l:List Tp} {k:Nat} {t:Tp} {p s} (h:l[k]? =some t) (h1:¬t.inR n):Fc n p s (l.drop k)=2:=by rw [C2 h,Fc,if_pos h1]
theorem Ty {n:Int} {l:List Tp} {k:Nat} {t:Tp} {p s} (h:l[k]? =some t) (h1:t.inR n) (h2:Iz p t):Fc n p s (l.drop k)=25:=by rw [C2 h,Fc,if_neg (fun h=>h h1),if_pos h2]
theorem Fh {n:Int} {l:List Tp} {k:Nat} {t:Tp} {p s} (h:l[k]? =some t) (h1:t.inR n) (h2:¬Iz p t) (h3:D8 t (C4 t s)):Fc n p s (l.drop k)=21:=by rw [C2 h,Fc,if_neg (fun h=>h h1),if_neg h2,if_pos h3]
theorem Gv {n:Int} {l:List Tp} {k:Nat} {t:Tp} {p s} (h:l[k]? =some t) (h1:t.inR n) (h2:¬Iz p t) (h3:¬D8 t (C4 t s)):Fc n p s (l.drop k)=Fc n (some t) (t::C4 t s) (l.drop (k+1)):=by
 rw [C2 h,Fc,if_neg (fun h=>h h1),if_neg h2,if_neg h3]
theorem Z4 {l:List Tp} {n:Int} (h:n<0∨128<n):2=Ew l n:=by rw [Ew,if_pos h]
theorem Aq9 {l:List Tp} {n:Int} (h:¬n<0) (h1:¬128<n) (h2:16<(l.length:Int)):9=Ew l n:=by rw [Ew,if_neg (by omega),if_pos (by omega)]
theorem Ed {l:List Tp} {n e:Int} (h:¬n<0) (h1:¬128<n) (h2:¬16<(l.length:Int)) (he:e=Fc n none [] l):e=Ew l n:=by rw [Ew,if_neg (by omega),if_neg (by omega),he]
theorem Xf {l:List Tp} {k:Nat} {t:Tp} (h:¬(0:Int)<k):¬Iz (Ni l k) t:=by
 have:k=0:=by omega
 subst this;exact fun h=>h
theorem Ru {l:List Tp} {k:Nat} {t q:Tp} (hk:0<k) (h:l[k - 1]? =some q):Iz (Ni l k) t↔0<Lt q t:=by
 cases k with
 |zero=>omega
 |succ k=>rw [Fj,show l[k]? =some q from h];exact Iff.rfl
theorem Yl (l:List Tp) (n:Int):XC Tryz.prog 139 [.sl 4 (l.map Tp.c), .v (.int .i64 n)] (fun r=>r=dI (Ew l n)):=by
 refine Ao Aeg Tryz.func139 R R lb<|zr<|za R R<|zn<|zs<|zr<|zm R R<|zp (As R R R)<|zm R R<|?_
 refine XL.dec 11 R (fun g11=> ?_) (fun g11=> ?_)
 exact zk 2 R<|zq R R R<|zn<|Aq (by kernel_rfl) R<|zr<|za R R<|zn<|zt<|z1 R R (rI (Z4 (by omega)))
 refine zm R R<|zp (Bb R R R)<|zq R R R<|zn<|?_
 refine zd R (fun c14=> ?_) (fun c14=> ?_)
 exact zr<|za R R<|zn<|zt<|z1 R R (rI (Z4 (by omega)))
 refine zi<|zs<|zr<|zm R R<|XL.len R R R Tryz.underlying23 fun hl16=>zp (Bb R R R)<|zn<|?_
 refine zd R (fun c17=> ?_) (fun c17=> ?_)
 exact zr<|za R R<|zn<|zt<|z1 R R (rI (Aq9 g11 c14 c17))
 refine zi<|zr<|XL.step R (A0 5 (l:= [.d (.v (.slice none 0 0))]) R Arw (by kernel_rfl))<|znr<|zp (Ako R)<|zp (Ar R (by conv=>lhs;whnf))<|?_
 refine zn<|zs<|zr<|zm R R<|XL.len R R R Tryz.underlying23 fun hl20=>zm R R<|zn<|Ah<|Kx 900 5 0 102 4 (l':= [.own 900]) R R (by decide) (by kernel_rfl)<|?_
 refine Ay (α:=Nat) (fun k=>k≤l.length∧Fc n (Ni l k) (stk l k) (l.drop k)=Fc n none [] l∧(stk l k).length≤3∧∀t∈stk l k,t.inR n) (fun k=>mkF [(0, .d (.sl 4 (l.map Tp.c))),(1, .d (dI n)),(6, .fn 165 [] [.ptr 5 0 0]),(19, .d (.sl 4 (l.map Tp.c))),(20, .d (dI l.length)),(21, .d (dI k))]) (fun k=>mkH [(5, .box [.own 900]),(900, .row 102 4 ((stk l k).reverse.map Tp.c))]) (fun k=>l.length - k) (0) (⟨Nat.zero_le _,by rw [List.drop_zero];rfl,Nat.zero_le _,fun t ht=>by cases ht⟩) ?_ ?_ ?_
 exact fz ⟨sr,sr,sr,sr,sr,sr,trivial⟩
 exact gz ⟨R,R,trivial⟩
 intro k hk0
 obtain ⟨hk,hgo,hst,hall⟩:=hk0
 refine zr<|zp (As R R R)<|zn<|zs<|?_
 refine zd R (fun c22=> ?_) (fun c22=> ?_)
 have hk0a:k<l.length:=by omega
 obtain ⟨x0,hx0⟩:=Au hk0a
 refine zi<|zs<|Ah<|zr<|zm R R<|zp (Am R R R D9 hx0)<|zp (Ae (s':= .d (.agg (Tp.c x0))) (Av R R Cb lb) (by kernel_rfl))<|XL.step R (A0 8 (l:= [.d (dI 0), .d (dI 0), .d (dI 0), .d (dI 0)]) R Db (by kernel_rfl))<|za R R<|?_
 refine XL.step R (Ag (l':= [.d (dI x0.first), .d (dI x0.count), .d (dI x0.actual), .d (dI x0.normal)]) R R R R Ej R lb (by kernel_rfl))<|zn<|zs<|zr<|zp (Aa R R Dn)<|zp (Ab R R Ai R R)<|zp (As R R R)<|zm R R<|?_
 refine XL.dec 29 R (fun g29=> ?_) (fun g29=> ?_)
 refine zk 4 R<|zq R R R<|zm R R<|zk 3 R<|zq R R R<|zm R R<|zk 7 R<|zq R R R<|zm R R<|zk 4 R<|zq R R R<|zm R R<|zk 4 R<|zq R R R<|?_
 exact zm R R<|zk 5 R<|zq R R R<|zn<|Aq (by kernel_rfl) R<|zr<|za R R<|zn<|zt<|z1 R R (rI (Ed g11 c14 c17 (by rw [←hgo,Dt hx0 (by unfold Tp.inR;omega)])))
 refine zp (Aa R R Dn)<|zp (Ab R R Ai R R)<|zm R R<|zp (Bb R R R)<|zq R R R<|zm R R<|?_
 refine XL.dec 35 R (fun g35=> ?_) (fun g35=> ?_)
 refine zk 3 R<|zq R R R<|zm R R<|zk 7 R<|zq R R R<|zm R R<|zk 4 R<|zq R R R<|zm R R<|zk 4 R<|zq R R R<|zm R R<|zk 5 R<|zq R R R<|?_
 exact zn<|Aq (by kernel_rfl) R<|zr<|za R R<|zn<|zt<|z1 R R (rI (Ed g11 c14 c17 (by rw [←hgo,Dt hx0 (by unfold Tp.inR;omega)])))
 refine zp (Aa R R Bv)<|zp (Ab R R Ai R R)<|zp (As R R R)<|zq R R R<|zm R R<|?_
 refine XL.dec 40 R (fun g40=> ?_) (fun g40=> ?_)
 refine zk 7 R<|zq R R R<|zm R R<|zk 4 R<|zq R R R<|zm R R<|zk 4 R<|zq R R R<|zm R R<|zk 5 R<|zq R R R<|zn<|Aq (by kernel_rfl) R<|zr<|?_
 exact za R R<|zn<|zt<|z1 R R (rI (Ed g11 c14 c17 (by rw [←hgo,Dt hx0 (by unfold Tp.inR;omega)])))
 refine zp (Aa R R Bv)<|zp (Ab R R Ai R R)<|zm R R<|zp (Aa R R Dn)<|zp (Ab R R Ai R R)<|zp (C9 R R R (by omega) (by omega))<|zp (Bb R R R)<|zq R R R<|zm R R<|?_
 refine XL.dec 49 R (fun g49=> ?_) (fun g49=> ?_)
 exact zk 4 R<|zq R R R<|zm R R<|zk 4 R<|zq R R R<|zm R R<|zk 5 R<|zq R R R<|zn<|Aq (by kernel_rfl) R<|zr<|za R R<|zn<|zt<|z1 R R (rI (Ed g11 c14 c17 (by rw [←hgo,Dt hx0 (by unfold Tp.inR;omega)])))
 refine zp (Aa R R M3)<|zp (Ab R R Ai R R)<|XL.call1 R R (Abh _) R<|zp (B6 R R)<|zq R R R<|zm R R<|?_
 refine XL.dec 55 R (fun g55=> ?_) (fun g55=> ?_)
 exact zk 4 R<|zq R R R<|zm R R<|zk 5 R<|zq R R R<|zn<|Aq (by kernel_rfl) R<|zr<|za R R<|zn<|zt<|z1 R R (rI (Ed g11 c14 c17 (by rw [←hgo,Dt hx0 (by unfold Tp.inR;omega)])))
 refine zp (Aa R R Pj)<|zp (Ab R R Ai R R)<|XL.call1 R R (Abh _) R<|zp (B6 R R)<|zq R R R<|zm R R<|?_
 refine XL.dec 61 R (fun g61=> ?_) (fun g61=> ?_)
 exact zk 5 R<|zq R R R<|zn<|Aq (by kernel_rfl) R<|zr<|za R R<|zn<|zt<|z1 R R (rI (Ed g11 c14 c17 (by rw [←hgo,Dt hx0 (by unfold Tp.inR;omega)])))
 refine zp (Aa R R M3)<|zp (Ab R R Ai R R)<|zp (Aa R R Pj)<|zp (Ab R R Ai R R)<|zp (A5 R R R)<|zq R R R<|zn<|?_
 refine zd R (fun c67=> ?_) (fun c67=> ?_)
 exact zr<|za R R<|zn<|zt<|z1 R R (rI (Ed g11 c14 c17 (by rw [←hgo,Dt hx0 (by unfold Tp.inR;omega)])))
 have hin:x0.inR n:=by unfold Tp.inR;omega
 have hok:x0.ok:=hin.ok (by omega)
 refine zi<|zs<|zs<|?_
 by_cases q69:(0:Int)<(k:Int)
 obtain ⟨q,hq⟩:∃q,l[k - 1]? =some q:=Au (by omega)
 refine Bm [] (by kernel_rfl) (by kernel_rfl) (by kernel_rfl) (by decide)<|ym R R<|yp (Dz (Bb R R R) (q69))<|ym R R<|ym R R<|ym R R<|yp (C9 R R R (by omega) (by omega))<|yp (F9 R R R (by omega:(k:Int) - 1=((k - 1:Nat):Int)) D9 hq)<|yp (Ae (s':= .d (.agg (Tp.c q))) (Av R R Cb lb) (by kernel_rfl))<|?_
 refine yp (Ae (s':= .d (.agg (Tp.c x0))) (Ac (Ad R R Cb R lb)) (by kernel_rfl))<|ChK.cons R (CStep.call R (Ap0 _ _) R)<|yp (Bb R R R)<|yp (Ba R R (by conv=>lhs;whnf))<|?_
 refine ChK.nil ⟨by kernel_rfl, ?_⟩
 refine zd R (fun c79=> ?_) (fun c79=> ?_)
 exact zr<|za R R<|zn<|zt<|z1 R R (rI (Ed g11 c14 c17 (by rw [←hgo,Ty hx0 hin ((Ru (by omega) hq).2 c79)])))
 have hna:¬Iz (Ni l k) x0:=fun h=>c79 ((Ru (by omega) hq).1 h)
 refine zi<|zr<|zp (Aw R (by conv=>lhs;whnf))<|?_
 refine zp (Ae (s':= .d (.agg (Tp.c x0))) (Ac (Ad R R Cb R lb)) (by kernel_rfl))<|?_
 refine XL.inl 900001 [(0, .d (.sl 4 (l.map Tp.c))),(1, .d (dI n)),(6, .fn 165 [] [.ptr 5 0 0]),(19, .d (.sl 4 (l.map Tp.c))),(20, .d (dI l.length)),(21, .d (dI k))] R R .s Sx Tryz.func165 R R lb (by simp only [List.forall_mem_cons];exact ⟨⟨Nat.le_of_ble_eq_true rfl,rfl⟩,⟨⟨Nat.le_of_ble_eq_true rfl,rfl⟩,⟨⟨Nat.le_of_ble_eq_true rfl,rfl⟩,⟨⟨Nat.le_of_ble_eq_true rfl,rfl⟩,⟨⟨Nat.le_of_ble_eq_true rfl,rfl⟩,⟨⟨Nat.le_of_ble_eq_true rfl,rfl⟩,fun p hp=>(by cases hp)⟩⟩⟩⟩⟩⟩) fun u1=>?_
 refine zr<|XL.step R (At 1002 (l:= [.d (dI x0.first), .d (dI x0.count), .d (dI x0.actual), .d (dI x0.normal)]) R R (by kernel_rfl))<|za R R<|zn<|zs<|Ah<|?_
 refine Ay (α:=List Tp) (fun s=>C4 x0 s=C4 x0 (stk l k)∧s.length≤3∧∀t∈s,t.inR n) (fun s=>mkF [(1, .ptr 5 0 0),(2, .ptr 1002 0 0),(3, .d (dB false))]) (fun s=>mkH [(5, .box [.own 900]),(900, .row 102 4 (s.reverse.map Tp.c)),(1002, .box ((Tp.c x0).map S.d)),(900001, .ghost u1 [(0, .d (.sl 4 (l.map Tp.c))),(1, .d (dI n)),(6, .fn 165 [] [.ptr 5 0 0]),(19, .d (.sl 4 (l.map Tp.c))),(20, .d (dI l.length)),(21, .d (dI k))])]) (fun s=>s.length) ((stk l k)) (⟨R,hst,hall⟩) ?_ ?_ ?_
 exact fz ⟨sr,sr,sr,trivial⟩
 exact gz ⟨R,R,R,R,trivial⟩
 intro s hk0i
 obtain ⟨hp,hl3,hso⟩:=hk0i
 have hrl:s.reverse.length=s.length:=List.length_reverse
 refine zs<|zs<|?_
 by_cases q7i:(0:Int)<(s.reverse.length:Int)
 obtain ⟨o,r,hs⟩:=P7 q7i
 have hoo:o.ok:=(hso o (by rw [hs];exact List.mem_cons_self)).ok (by omega)
 refine Bm [] (by kernel_rfl) (by kernel_rfl) (by kernel_rfl) (by decide)<|yp (Ab R R B1 R R)<|yp (Cg R R R Tryz.underlying23)<|yp (Dz (Bb R R R) (q7i))<|ym R R<|yp (Ab R R B1 R R)<|yp (Ab R R B1 R R)<|yp (Cg R R R Tryz.underlying23)<|yp (C9 R R R (by omega) (by omega))<|yp (Cu R R R (Mu hs) R D9 (P6 hs))<|?_
 refine yp (Ae (s':= .d (.agg (Tp.c o))) (E3 R R Cb R (Cf (Nr hs)) lb) (by kernel_rfl))<|ChK.cons R (CStep.call R (It _ (by assumption)) R)<|yp (Aa R R Bv)<|yp (Ab R R Ai R R)<|yp (Fx R R R)<|yp (Ba R R (by conv=>lhs;whnf))<|?_
 refine ChK.nil ⟨by kernel_rfl, ?_⟩
 refine zd R (fun c19i=> ?_) (fun c19i=> ?_)
 refine zi<|Ah<|Af (by kernel_rfl)<|zp (Ab R R B1 R R)<|zp (Ab R R B1 R R)<|zp (Cg R R R Tryz.underlying23)<|zp (C9 R R R (by omega) (by omega))<|XL.step R (Vz R R R D9 (Bd.ati R (Mu hs)) (by simp))<|XL.step R (Ag (l':= [.own 900]) R R R R G9 R lb (by kernel_rfl))<|zn<|Io<|?_
 exact Ak (r) (⟨by rw [←Abo hs c19i];exact hp,by rw [hs] at hl3;simp at hl3;omega,fun t ht=>hso t (by rw [hs];exact List.mem_cons_of_mem _ ht)⟩) (by rw [hs];simp) (fz ⟨sr,sr,sr,trivial⟩) (gz ⟨rfl,Aib hs,rfl,rfl,trivial⟩)
 have hend:=Aiw hs c19i
 refine Ap<|zs<|zr<|zp (Ab R R B1 R R)<|zp (Cg R R R Tryz.underlying23)<|za R R<|zn<|zs<|?_
 by_cases q28i:(s.reverse.length:Int)=(3:Int)
 have hov:D8 x0 (C4 x0 (stk l k)):=by rw [←hp,hend];exact Wm q28i
 refine Bm [] (by kernel_rfl) (by kernel_rfl) (by kernel_rfl) (by decide)<|ym R R<|yp (Dz (A5 R R R) (q28i))<|ym R R<|ChK.skip R<|ChK.skip R<|ChK.skip R<|ChK.skip R<|ChK.skip R<|ChK.skip R<|ChK.skip R<|ChK.skip R<|ChK.skip R<|ChK.skip R<|?_
 refine ChK.skip R<|ChK.skip R<|ChK.skip R<|yp (Ba R R (by conv=>lhs;whnf))<|?_
 refine ChK.nil ⟨by kernel_rfl, ?_⟩
 refine Aq (by kernel_rfl) R<|zr<|za R R<|zn<|zt<|?_
 refine (G0 (l:= [(0, .d (.sl 4 (l.map Tp.c))),(1, .d (dI n)),(6, .fn 165 [] [.ptr 5 0 0]),(19, .d (.sl 4 (l.map Tp.c))),(20, .d (dI l.length)),(21, .d (dI k))]) (by kernel_rfl) (rs1 R (RV.tmp R R)) ?_).2
 exact zp (Dd R R)<|zn<|Aq (by kernel_rfl) R<|zr<|za R R<|zn<|zt<|z1 R R (rI (Ed g11 c14 c17 (by rw [←hgo,Fh hx0 hin hna hov])))
 by_cases q31i:(0:Int)<(s.reverse.length:Int)
 obtain ⟨o,r,hs⟩:=P7 q31i
 have hoo:o.ok:=(hso o (by rw [hs];exact List.mem_cons_self)).ok (by omega)
 refine Bm [] (by kernel_rfl) (by kernel_rfl) (by kernel_rfl) (by decide)<|ym R R<|yp (F7 (A5 R R R) (q28i))<|ym R R<|ym R R<|yp (Dz (Bb R R R) (q31i))<|ym R R<|yp (Ae (s':= .d (.agg (Tp.c x0))) (Ac (Ad R R Cb R lb)) (by kernel_rfl))<|ChK.cons R (CStep.call R (It _ (by assumption)) R)<|yp (Ab R R B1 R R)<|ym R R<|?_
 refine yp (C9 R R R (by omega) (by omega))<|yp (Cu R R R (Mu hs) R D9 (P6 hs))<|yp (Ae (s':= .d (.agg (Tp.c o))) (E3 R R Cb R (Cf (Nr hs)) lb) (by kernel_rfl))<|ChK.cons R (CStep.call R (It _ (by assumption)) R)<|yp (Bb R R R)<|yp (Ba R R (by conv=>lhs;whnf))<|?_
 refine yp (Ba R R (by conv=>lhs;whnf))<|?_
 refine ChK.nil ⟨by kernel_rfl, ?_⟩
 refine zd R (fun c43i=> ?_) (fun c43i=> ?_)
 have hov:D8 x0 (C4 x0 (stk l k)):=by rw [←hp,hend];exact Q9 hs c43i
 refine zr<|za R R<|zn<|zt<|?_
 refine (G0 (l:= [(0, .d (.sl 4 (l.map Tp.c))),(1, .d (dI n)),(6, .fn 165 [] [.ptr 5 0 0]),(19, .d (.sl 4 (l.map Tp.c))),(20, .d (dI l.length)),(21, .d (dI k))]) (by kernel_rfl) (rs1 R (RV.tmp R R)) ?_).2
 exact zp (Dd R R)<|zn<|Aq (by kernel_rfl) R<|zr<|za R R<|zn<|zt<|z1 R R (rI (Ed g11 c14 c17 (by rw [←hgo,Fh hx0 hin hna hov])))
 have hov:¬D8 x0 (C4 x0 (stk l k)):=by rw [←hp,hend];exact Th q28i hs c43i
 refine zi<|zr<|zp (Ab R R B1 R R)<|zp (Ae (s':= .d (.agg (Tp.c x0))) (Ac (Ad R R Cb R lb)) (by kernel_rfl))<|XL.step R (Bj 1046 R Tryz.underlying23 Ej Db R R (by omega) (by omega))<|XL.step R (A7 R G4 (.own R) (Src.own R) (by unfold maxLen;simp;omega) (by simp;omega))<|?_
 refine XL.step R (Ag (l':= [.own 900]) R R R R G9 R lb (by kernel_rfl))<|znr<|za R R<|zn<|zt<|?_
 refine (G0 (l:= [(0, .d (.sl 4 (l.map Tp.c))),(1, .d (dI n)),(6, .fn 165 [] [.ptr 5 0 0]),(19, .d (.sl 4 (l.map Tp.c))),(20, .d (dI l.length)),(21, .d (dI k))]) (by kernel_rfl) (rs1 R (RV.tmp R R)) ?_).2
 refine zp (Dd R R)<|zn<|A9 (by kernel_rfl) R<|zi<|Af (by kernel_rfl)<|zp (Aj R R R (by omega) (by omega))<|zm R R<|zn<|?_
 exact Ak (k+1) (⟨by omega,by rw [Fj,hx0,Cd hx0, ←Gv hx0 hin hna hov];exact hgo,by rw [Cd hx0,List.length_cons, ←hp,hend];omega,fun t ht=>by rw [Cd hx0] at ht;rcases List.mem_cons.1 ht with e|e;(· rw [e];exact hin);(· exact hall t (Ka _ _ t e))⟩) (by omega) (fz ⟨sr,sr,sr,sr,sr,sr,trivial⟩) (gz ⟨rfl,J4 (by rw [Cd hx0, ←hp,hend]),trivial⟩)
 have hov:¬D8 x0 (C4 x0 (stk l k)):=by rw [←hp,hend];exact Ra q28i q31i
 refine Bm [] (by kernel_rfl) (by kernel_rfl) (by kernel_rfl) (by decide)<|ym R R<|yp (F7 (A5 R R R) (q28i))<|ym R R<|ym R R<|yp (F7 (Bb R R R) (q31i))<|ym R R<|ChK.skip R<|ChK.skip R<|ChK.skip R<|ChK.skip R<|ChK.skip R<|ChK.skip R<|ChK.skip R<|?_
 refine ChK.skip R<|ChK.skip R<|yp (Ba R R (by conv=>lhs;whnf))<|?_
 refine yp (Ba R R (by conv=>lhs;whnf))<|?_
 refine ChK.nil ⟨by kernel_rfl, ?_⟩
 refine A9 (by kernel_rfl) R<|zi<|zr<|zp (Ab R R B1 R R)<|zp (Ae (s':= .d (.agg (Tp.c x0))) (Ac (Ad R R Cb R lb)) (by kernel_rfl))<|XL.step R (Bj 1046 R Tryz.underlying23 Ej Db R R (by omega) (by omega))<|XL.step R (A7 R G4 (.own R) (Src.own R) (by unfold maxLen;simp;omega) (by simp;omega))<|?_
 refine XL.step R (Ag (l':= [.own 900]) R R R R G9 R lb (by kernel_rfl))<|znr<|za R R<|zn<|zt<|?_
 refine (G0 (l:= [(0, .d (.sl 4 (l.map Tp.c))),(1, .d (dI n)),(6, .fn 165 [] [.ptr 5 0 0]),(19, .d (.sl 4 (l.map Tp.c))),(20, .d (dI l.length)),(21, .d (dI k))]) (by kernel_rfl) (rs1 R (RV.tmp R R)) ?_).2
 refine zp (Dd R R)<|zn<|A9 (by kernel_rfl) R<|zi<|Af (by kernel_rfl)<|zp (Aj R R R (by omega) (by omega))<|zm R R<|zn<|?_
 exact Ak (k+1) (⟨by omega,by rw [Fj,hx0,Cd hx0, ←Gv hx0 hin hna hov];exact hgo,by rw [Cd hx0,List.length_cons, ←hp,hend];omega,fun t ht=>by rw [Cd hx0] at ht;rcases List.mem_cons.1 ht with e|e;(· rw [e];exact hin);(· exact hall t (Ka _ _ t e))⟩) (by omega) (fz ⟨sr,sr,sr,sr,sr,sr,trivial⟩) (gz ⟨rfl,J4 (by rw [Cd hx0, ←hp,hend]),trivial⟩)
 have hend:=Abp (t:=x0) q7i
 refine Bm [] (by kernel_rfl) (by kernel_rfl) (by kernel_rfl) (by decide)<|yp (Ab R R B1 R R)<|yp (Cg R R R Tryz.underlying23)<|yp (F7 (Bb R R R) (q7i))<|ym R R<|ChK.skip R<|ChK.skip R<|ChK.skip R<|ChK.skip R<|ChK.skip R<|ChK.skip R<|ChK.skip R<|ChK.skip R<|ChK.skip R<|?_
 refine ChK.skip R<|yp (Ba R R (by conv=>lhs;whnf))<|?_
 refine ChK.nil ⟨by kernel_rfl, ?_⟩
 refine A9 (by kernel_rfl) R<|Ap<|zs<|zr<|zp (Ab R R B1 R R)<|zp (Cg R R R Tryz.underlying23)<|za R R<|zn<|zs<|?_
 by_cases q28i:(s.reverse.length:Int)=(3:Int)
 have hov:D8 x0 (C4 x0 (stk l k)):=by rw [←hp,hend];exact Wm q28i
 refine Bm [] (by kernel_rfl) (by kernel_rfl) (by kernel_rfl) (by decide)<|ym R R<|yp (Dz (A5 R R R) (q28i))<|ym R R<|ChK.skip R<|ChK.skip R<|ChK.skip R<|ChK.skip R<|ChK.skip R<|ChK.skip R<|ChK.skip R<|ChK.skip R<|ChK.skip R<|ChK.skip R<|?_
 refine ChK.skip R<|ChK.skip R<|ChK.skip R<|yp (Ba R R (by conv=>lhs;whnf))<|?_
 refine ChK.nil ⟨by kernel_rfl, ?_⟩
 refine Aq (by kernel_rfl) R<|zr<|za R R<|zn<|zt<|?_
 refine (G0 (l:= [(0, .d (.sl 4 (l.map Tp.c))),(1, .d (dI n)),(6, .fn 165 [] [.ptr 5 0 0]),(19, .d (.sl 4 (l.map Tp.c))),(20, .d (dI l.length)),(21, .d (dI k))]) (by kernel_rfl) (rs1 R (RV.tmp R R)) ?_).2
 exact zp (Dd R R)<|zn<|Aq (by kernel_rfl) R<|zr<|za R R<|zn<|zt<|z1 R R (rI (Ed g11 c14 c17 (by rw [←hgo,Fh hx0 hin hna hov])))
 by_cases q31i:(0:Int)<(s.reverse.length:Int)
 obtain ⟨o,r,hs⟩:=P7 q31i
 have hoo:o.ok:=(hso o (by rw [hs];exact List.mem_cons_self)).ok (by omega)
 refine Bm [] (by kernel_rfl) (by kernel_rfl) (by kernel_rfl) (by decide)<|ym R R<|yp (F7 (A5 R R R) (q28i))<|ym R R<|ym R R<|yp (Dz (Bb R R R) (q31i))<|ym R R<|yp (Ae (s':= .d (.agg (Tp.c x0))) (Ac (Ad R R Cb R lb)) (by kernel_rfl))<|ChK.cons R (CStep.call R (It _ (by assumption)) R)<|yp (Ab R R B1 R R)<|ym R R<|?_
 refine yp (C9 R R R (by omega) (by omega))<|yp (Cu R R R (Mu hs) R D9 (P6 hs))<|yp (Ae (s':= .d (.agg (Tp.c o))) (E3 R R Cb R (Cf (Nr hs)) lb) (by kernel_rfl))<|ChK.cons R (CStep.call R (It _ (by assumption)) R)<|yp (Bb R R R)<|yp (Ba R R (by conv=>lhs;whnf))<|?_
 refine yp (Ba R R (by conv=>lhs;whnf))<|?_
 refine ChK.nil ⟨by kernel_rfl, ?_⟩
 refine zd R (fun c43i=> ?_) (fun c43i=> ?_)
 have hov:D8 x0 (C4 x0 (stk l k)):=by rw [←hp,hend];exact Q9 hs c43i
 refine zr<|za R R<|zn<|zt<|?_
 refine (G0 (l:= [(0, .d (.sl 4 (l.map Tp.c))),(1, .d (dI n)),(6, .fn 165 [] [.ptr 5 0 0]),(19, .d (.sl 4 (l.map Tp.c))),(20, .d (dI l.length)),(21, .d (dI k))]) (by kernel_rfl) (rs1 R (RV.tmp R R)) ?_).2
 exact zp (Dd R R)<|zn<|Aq (by kernel_rfl) R<|zr<|za R R<|zn<|zt<|z1 R R (rI (Ed g11 c14 c17 (by rw [←hgo,Fh hx0 hin hna hov])))
 have hov:¬D8 x0 (C4 x0 (stk l k)):=by rw [←hp,hend];exact Th q28i hs c43i
 refine zi<|zr<|zp (Ab R R B1 R R)<|zp (Ae (s':= .d (.agg (Tp.c x0))) (Ac (Ad R R Cb R lb)) (by kernel_rfl))<|XL.step R (Bj 1046 R Tryz.underlying23 Ej Db R R (by omega) (by omega))<|XL.step R (A7 R G4 (.own R) (Src.own R) (by unfold maxLen;simp;omega) (by simp;omega))<|?_
 refine XL.step R (Ag (l':= [.own 900]) R R R R G9 R lb (by kernel_rfl))<|znr<|za R R<|zn<|zt<|?_
 refine (G0 (l:= [(0, .d (.sl 4 (l.map Tp.c))),(1, .d (dI n)),(6, .fn 165 [] [.ptr 5 0 0]),(19, .d (.sl 4 (l.map Tp.c))),(20, .d (dI l.length)),(21, .d (dI k))]) (by kernel_rfl) (rs1 R (RV.tmp R R)) ?_).2
 refine zp (Dd R R)<|zn<|A9 (by kernel_rfl) R<|zi<|Af (by kernel_rfl)<|zp (Aj R R R (by omega) (by omega))<|zm R R<|zn<|?_
 exact Ak (k+1) (⟨by omega,by rw [Fj,hx0,Cd hx0, ←Gv hx0 hin hna hov];exact hgo,by rw [Cd hx0,List.length_cons, ←hp,hend];omega,fun t ht=>by rw [Cd hx0] at ht;rcases List.mem_cons.1 ht with e|e;(· rw [e];exact hin);(· exact hall t (Ka _ _ t e))⟩) (by omega) (fz ⟨sr,sr,sr,sr,sr,sr,trivial⟩) (gz ⟨rfl,J4 (by rw [Cd hx0, ←hp,hend]),trivial⟩)
 have hov:¬D8 x0 (C4 x0 (stk l k)):=by rw [←hp,hend];exact Ra q28i q31i
 refine Bm [] (by kernel_rfl) (by kernel_rfl) (by kernel_rfl) (by decide)<|ym R R<|yp (F7 (A5 R R R) (q28i))<|ym R R<|ym R R<|yp (F7 (Bb R R R) (q31i))<|ym R R<|ChK.skip R<|ChK.skip R<|ChK.skip R<|ChK.skip R<|ChK.skip R<|ChK.skip R<|ChK.skip R<|?_
 refine ChK.skip R<|ChK.skip R<|yp (Ba R R (by conv=>lhs;whnf))<|?_
 refine yp (Ba R R (by conv=>lhs;whnf))<|?_
 refine ChK.nil ⟨by kernel_rfl, ?_⟩
 refine A9 (by kernel_rfl) R<|zi<|zr<|zp (Ab R R B1 R R)<|zp (Ae (s':= .d (.agg (Tp.c x0))) (Ac (Ad R R Cb R lb)) (by kernel_rfl))<|XL.step R (Bj 1046 R Tryz.underlying23 Ej Db R R (by omega) (by omega))<|XL.step R (A7 R G4 (.own R) (Src.own R) (by unfold maxLen;simp;omega) (by simp;omega))<|?_
 refine XL.step R (Ag (l':= [.own 900]) R R R R G9 R lb (by kernel_rfl))<|znr<|za R R<|zn<|zt<|?_
 refine (G0 (l:= [(0, .d (.sl 4 (l.map Tp.c))),(1, .d (dI n)),(6, .fn 165 [] [.ptr 5 0 0]),(19, .d (.sl 4 (l.map Tp.c))),(20, .d (dI l.length)),(21, .d (dI k))]) (by kernel_rfl) (rs1 R (RV.tmp R R)) ?_).2
 refine zp (Dd R R)<|zn<|A9 (by kernel_rfl) R<|zi<|Af (by kernel_rfl)<|zp (Aj R R R (by omega) (by omega))<|zm R R<|zn<|?_
 exact Ak (k+1) (⟨by omega,by rw [Fj,hx0,Cd hx0, ←Gv hx0 hin hna hov];exact hgo,by rw [Cd hx0,List.length_cons, ←hp,hend];omega,fun t ht=>by rw [Cd hx0] at ht;rcases List.mem_cons.1 ht with e|e;(· rw [e];exact hin);(· exact hall t (Ka _ _ t e))⟩) (by omega) (fz ⟨sr,sr,sr,sr,sr,sr,trivial⟩) (gz ⟨rfl,J4 (by rw [Cd hx0, ←hp,hend]),trivial⟩)
 have hna:=Xf (l:=l) (t:=x0) q69
 refine Bm [] (by kernel_rfl) (by kernel_rfl) (by kernel_rfl) (by decide)<|ym R R<|yp (F7 (Bb R R R) (q69))<|ym R R<|ChK.skip R<|ChK.skip R<|ChK.skip R<|ChK.skip R<|ChK.skip R<|ChK.skip R<|ChK.skip R<|ChK.skip R<|yp (Ba R R (by conv=>lhs;whnf))<|?_
 refine ChK.nil ⟨by kernel_rfl, ?_⟩
 refine A9 (by kernel_rfl) R<|zi<|zr<|zp (Aw R (by conv=>lhs;whnf))<|?_
 refine zp (Ae (s':= .d (.agg (Tp.c x0))) (Ac (Ad R R Cb R lb)) (by kernel_rfl))<|?_
 refine XL.inl 900002 [(0, .d (.sl 4 (l.map Tp.c))),(1, .d (dI n)),(6, .fn 165 [] [.ptr 5 0 0]),(19, .d (.sl 4 (l.map Tp.c))),(20, .d (dI l.length)),(21, .d (dI k))] R R .s Sx Tryz.func165 R R lb (by simp only [List.forall_mem_cons];exact ⟨⟨Nat.le_of_ble_eq_true rfl,rfl⟩,⟨⟨Nat.le_of_ble_eq_true rfl,rfl⟩,⟨⟨Nat.le_of_ble_eq_true rfl,rfl⟩,⟨⟨Nat.le_of_ble_eq_true rfl,rfl⟩,⟨⟨Nat.le_of_ble_eq_true rfl,rfl⟩,⟨⟨Nat.le_of_ble_eq_true rfl,rfl⟩,fun p hp=>(by cases hp)⟩⟩⟩⟩⟩⟩) fun u2=>?_
 refine zr<|XL.step R (At 2002 (l:= [.d (dI x0.first), .d (dI x0.count), .d (dI x0.actual), .d (dI x0.normal)]) R R (by kernel_rfl))<|za R R<|zn<|zs<|Ah<|?_
 refine Ay (α:=List Tp) (fun s=>C4 x0 s=C4 x0 (stk l k)∧s.length≤3∧∀t∈s,t.inR n) (fun s=>mkF [(1, .ptr 5 0 0),(2, .ptr 2002 0 0),(3, .d (dB false))]) (fun s=>mkH [(5, .box [.own 900]),(900, .row 102 4 (s.reverse.map Tp.c)),(2002, .box ((Tp.c x0).map S.d)),(900002, .ghost u2 [(0, .d (.sl 4 (l.map Tp.c))),(1, .d (dI n)),(6, .fn 165 [] [.ptr 5 0 0]),(19, .d (.sl 4 (l.map Tp.c))),(20, .d (dI l.length)),(21, .d (dI k))])]) (fun s=>s.length) ((stk l k)) (⟨R,hst,hall⟩) ?_ ?_ ?_
 exact fz ⟨sr,sr,sr,trivial⟩
 exact gz ⟨R,R,R,R,trivial⟩
 intro s hk0i
 obtain ⟨hp,hl3,hso⟩:=hk0i
 have hrl:s.reverse.length=s.length:=List.length_reverse
 refine zs<|zs<|?_
 by_cases q7i:(0:Int)<(s.reverse.length:Int)
 obtain ⟨o,r,hs⟩:=P7 q7i
 have hoo:o.ok:=(hso o (by rw [hs];exact List.mem_cons_self)).ok (by omega)
 refine Bm [] (by kernel_rfl) (by kernel_rfl) (by kernel_rfl) (by decide)<|yp (Ab R R B1 R R)<|yp (Cg R R R Tryz.underlying23)<|yp (Dz (Bb R R R) (q7i))<|ym R R<|yp (Ab R R B1 R R)<|yp (Ab R R B1 R R)<|yp (Cg R R R Tryz.underlying23)<|yp (C9 R R R (by omega) (by omega))<|yp (Cu R R R (Mu hs) R D9 (P6 hs))<|?_
 refine yp (Ae (s':= .d (.agg (Tp.c o))) (E3 R R Cb R (Cf (Nr hs)) lb) (by kernel_rfl))<|ChK.cons R (CStep.call R (It _ (by assumption)) R)<|yp (Aa R R Bv)<|yp (Ab R R Ai R R)<|yp (Fx R R R)<|yp (Ba R R (by conv=>lhs;whnf))<|?_
 refine ChK.nil ⟨by kernel_rfl, ?_⟩
 refine zd R (fun c19i=> ?_) (fun c19i=> ?_)
 refine zi<|Ah<|Af (by kernel_rfl)<|zp (Ab R R B1 R R)<|zp (Ab R R B1 R R)<|zp (Cg R R R Tryz.underlying23)<|zp (C9 R R R (by omega) (by omega))<|XL.step R (Vz R R R D9 (Bd.ati R (Mu hs)) (by simp))<|XL.step R (Ag (l':= [.own 900]) R R R R G9 R lb (by kernel_rfl))<|zn<|Io<|?_
 exact Ak (r) (⟨by rw [←Abo hs c19i];exact hp,by rw [hs] at hl3;simp at hl3;omega,fun t ht=>hso t (by rw [hs];exact List.mem_cons_of_mem _ ht)⟩) (by rw [hs];simp) (fz ⟨sr,sr,sr,trivial⟩) (gz ⟨rfl,Aib hs,rfl,rfl,trivial⟩)
 have hend:=Aiw hs c19i
 refine Ap<|zs<|zr<|zp (Ab R R B1 R R)<|zp (Cg R R R Tryz.underlying23)<|za R R<|zn<|zs<|?_
 by_cases q28i:(s.reverse.length:Int)=(3:Int)
 have hov:D8 x0 (C4 x0 (stk l k)):=by rw [←hp,hend];exact Wm q28i
 refine Bm [] (by kernel_rfl) (by kernel_rfl) (by kernel_rfl) (by decide)<|ym R R<|yp (Dz (A5 R R R) (q28i))<|ym R R<|ChK.skip R<|ChK.skip R<|ChK.skip R<|ChK.skip R<|ChK.skip R<|ChK.skip R<|ChK.skip R<|ChK.skip R<|ChK.skip R<|ChK.skip R<|?_
 refine ChK.skip R<|ChK.skip R<|ChK.skip R<|yp (Ba R R (by conv=>lhs;whnf))<|?_
 refine ChK.nil ⟨by kernel_rfl, ?_⟩
 refine Aq (by kernel_rfl) R<|zr<|za R R<|zn<|zt<|?_
 refine (G0 (l:= [(0, .d (.sl 4 (l.map Tp.c))),(1, .d (dI n)),(6, .fn 165 [] [.ptr 5 0 0]),(19, .d (.sl 4 (l.map Tp.c))),(20, .d (dI l.length)),(21, .d (dI k))]) (by kernel_rfl) (rs1 R (RV.tmp R R)) ?_).2
 exact zp (Dd R R)<|zn<|Aq (by kernel_rfl) R<|zr<|za R R<|zn<|zt<|z1 R R (rI (Ed g11 c14 c17 (by rw [←hgo,Fh hx0 hin hna hov])))
 by_cases q31i:(0:Int)<(s.reverse.length:Int)
 obtain ⟨o,r,hs⟩:=P7 q31i
 have hoo:o.ok:=(hso o (by rw [hs];exact List.mem_cons_self)).ok (by omega)
 refine Bm [] (by kernel_rfl) (by kernel_rfl) (by kernel_rfl) (by decide)<|ym R R<|yp (F7 (A5 R R R) (q28i))<|ym R R<|ym R R<|yp (Dz (Bb R R R) (q31i))<|ym R R<|yp (Ae (s':= .d (.agg (Tp.c x0))) (Ac (Ad R R Cb R lb)) (by kernel_rfl))<|ChK.cons R (CStep.call R (It _ (by assumption)) R)<|yp (Ab R R B1 R R)<|ym R R<|?_
 refine yp (C9 R R R (by omega) (by omega))<|yp (Cu R R R (Mu hs) R D9 (P6 hs))<|yp (Ae (s':= .d (.agg (Tp.c o))) (E3 R R Cb R (Cf (Nr hs)) lb) (by kernel_rfl))<|ChK.cons R (CStep.call R (It _ (by assumption)) R)<|yp (Bb R R R)<|yp (Ba R R (by conv=>lhs;whnf))<|?_
 refine yp (Ba R R (by conv=>lhs;whnf))<|?_
 refine ChK.nil ⟨by kernel_rfl, ?_⟩
 refine zd R (fun c43i=> ?_) (fun c43i=> ?_)
 have hov:D8 x0 (C4 x0 (stk l k)):=by rw [←hp,hend];exact Q9 hs c43i
 refine zr<|za R R<|zn<|zt<|?_
 refine (G0 (l:= [(0, .d (.sl 4 (l.map Tp.c))),(1, .d (dI n)),(6, .fn 165 [] [.ptr 5 0 0]),(19, .d (.sl 4 (l.map Tp.c))),(20, .d (dI l.length)),(21, .d (dI k))]) (by kernel_rfl) (rs1 R (RV.tmp R R)) ?_).2
 exact zp (Dd R R)<|zn<|Aq (by kernel_rfl) R<|zr<|za R R<|zn<|zt<|z1 R R (rI (Ed g11 c14 c17 (by rw [←hgo,Fh hx0 hin hna hov])))
 have hov:¬D8 x0 (C4 x0 (stk l k)):=by rw [←hp,hend];exact Th q28i hs c43i
 refine zi<|zr<|zp (Ab R R B1 R R)<|zp (Ae (s':= .d (.agg (Tp.c x0))) (Ac (Ad R R Cb R lb)) (by kernel_rfl))<|XL.step R (Bj 2046 R Tryz.underlying23 Ej Db R R (by omega) (by omega))<|XL.step R (A7 R G4 (.own R) (Src.own R) (by unfold maxLen;simp;omega) (by simp;omega))<|?_
 refine XL.step R (Ag (l':= [.own 900]) R R R R G9 R lb (by kernel_rfl))<|znr<|za R R<|zn<|zt<|?_
 refine (G0 (l:= [(0, .d (.sl 4 (l.map Tp.c))),(1, .d (dI n)),(6, .fn 165 [] [.ptr 5 0 0]),(19, .d (.sl 4 (l.map Tp.c))),(20, .d (dI l.length)),(21, .d (dI k))]) (by kernel_rfl) (rs1 R (RV.tmp R R)) ?_).2
 refine zp (Dd R R)<|zn<|A9 (by kernel_rfl) R<|zi<|Af (by kernel_rfl)<|zp (Aj R R R (by omega) (by omega))<|zm R R<|zn<|?_
 exact Ak (k+1) (⟨by omega,by rw [Fj,hx0,Cd hx0, ←Gv hx0 hin hna hov];exact hgo,by rw [Cd hx0,List.length_cons, ←hp,hend];omega,fun t ht=>by rw [Cd hx0] at ht;rcases List.mem_cons.1 ht with e|e;(· rw [e];exact hin);(· exact hall t (Ka _ _ t e))⟩) (by omega) (fz ⟨sr,sr,sr,sr,sr,sr,trivial⟩) (gz ⟨rfl,J4 (by rw [Cd hx0, ←hp,hend]),trivial⟩)
 have hov:¬D8 x0 (C4 x0 (stk l k)):=by rw [←hp,hend];exact Ra q28i q31i
 refine Bm [] (by kernel_rfl) (by kernel_rfl) (by kernel_rfl) (by decide)<|ym R R<|yp (F7 (A5 R R R) (q28i))<|ym R R<|ym R R<|yp (F7 (Bb R R R) (q31i))<|ym R R<|ChK.skip R<|ChK.skip R<|ChK.skip R<|ChK.skip R<|ChK.skip R<|ChK.skip R<|ChK.skip R<|?_
 refine ChK.skip R<|ChK.skip R<|yp (Ba R R (by conv=>lhs;whnf))<|?_
 refine yp (Ba R R (by conv=>lhs;whnf))<|?_
 refine ChK.nil ⟨by kernel_rfl, ?_⟩
 refine A9 (by kernel_rfl) R<|zi<|zr<|zp (Ab R R B1 R R)<|zp (Ae (s':= .d (.agg (Tp.c x0))) (Ac (Ad R R Cb R lb)) (by kernel_rfl))<|XL.step R (Bj 2046 R Tryz.underlying23 Ej Db R R (by omega) (by omega))<|XL.step R (A7 R G4 (.own R) (Src.own R) (by unfold maxLen;simp;omega) (by simp;omega))<|?_
 refine XL.step R (Ag (l':= [.own 900]) R R R R G9 R lb (by kernel_rfl))<|znr<|za R R<|zn<|zt<|?_
 refine (G0 (l:= [(0, .d (.sl 4 (l.map Tp.c))),(1, .d (dI n)),(6, .fn 165 [] [.ptr 5 0 0]),(19, .d (.sl 4 (l.map Tp.c))),(20, .d (dI l.length)),(21, .d (dI k))]) (by kernel_rfl) (rs1 R (RV.tmp R R)) ?_).2
 refine zp (Dd R R)<|zn<|A9 (by kernel_rfl) R<|zi<|Af (by kernel_rfl)<|zp (Aj R R R (by omega) (by omega))<|zm R R<|zn<|?_
 exact Ak (k+1) (⟨by omega,by rw [Fj,hx0,Cd hx0, ←Gv hx0 hin hna hov];exact hgo,by rw [Cd hx0,List.length_cons, ←hp,hend];omega,fun t ht=>by rw [Cd hx0] at ht;rcases List.mem_cons.1 ht with e|e;(· rw [e];exact hin);(· exact hall t (Ka _ _ t e))⟩) (by omega) (fz ⟨sr,sr,sr,sr,sr,sr,trivial⟩) (gz ⟨rfl,J4 (by rw [Cd hx0, ←hp,hend]),trivial⟩)
 have hend:=Abp (t:=x0) q7i
 refine Bm [] (by kernel_rfl) (by kernel_rfl) (by kernel_rfl) (by decide)<|yp (Ab R R B1 R R)<|yp (Cg R R R Tryz.underlying23)<|yp (F7 (Bb R R R) (q7i))<|ym R R<|ChK.skip R<|ChK.skip R<|ChK.skip R<|ChK.skip R<|ChK.skip R<|ChK.skip R<|ChK.skip R<|ChK.skip R<|ChK.skip R<|?_
 refine ChK.skip R<|yp (Ba R R (by conv=>lhs;whnf))<|?_
 refine ChK.nil ⟨by kernel_rfl, ?_⟩
 refine A9 (by kernel_rfl) R<|Ap<|zs<|zr<|zp (Ab R R B1 R R)<|zp (Cg R R R Tryz.underlying23)<|za R R<|zn<|zs<|?_
 by_cases q28i:(s.reverse.length:Int)=(3:Int)
 have hov:D8 x0 (C4 x0 (stk l k)):=by rw [←hp,hend];exact Wm q28i
 refine Bm [] (by kernel_rfl) (by kernel_rfl) (by kernel_rfl) (by decide)<|ym R R<|yp (Dz (A5 R R R) (q28i))<|ym R R<|ChK.skip R<|ChK.skip R<|ChK.skip R<|ChK.skip R<|ChK.skip R<|ChK.skip R<|ChK.skip R<|ChK.skip R<|ChK.skip R<|ChK.skip R<|?_
 refine ChK.skip R<|ChK.skip R<|ChK.skip R<|yp (Ba R R (by conv=>lhs;whnf))<|?_
 refine ChK.nil ⟨by kernel_rfl, ?_⟩
 refine Aq (by kernel_rfl) R<|zr<|za R R<|zn<|zt<|?_
 refine (G0 (l:= [(0, .d (.sl 4 (l.map Tp.c))),(1, .d (dI n)),(6, .fn 165 [] [.ptr 5 0 0]),(19, .d (.sl 4 (l.map Tp.c))),(20, .d (dI l.length)),(21, .d (dI k))]) (by kernel_rfl) (rs1 R (RV.tmp R R)) ?_).2
 exact zp (Dd R R)<|zn<|Aq (by kernel_rfl) R<|zr<|za R R<|zn<|zt<|z1 R R (rI (Ed g11 c14 c17 (by rw [←hgo,Fh hx0 hin hna hov])))
 by_cases q31i:(0:Int)<(s.reverse.length:Int)
 obtain ⟨o,r,hs⟩:=P7 q31i
 have hoo:o.ok:=(hso o (by rw [hs];exact List.mem_cons_self)).ok (by omega)
 refine Bm [] (by kernel_rfl) (by kernel_rfl) (by kernel_rfl) (by decide)<|ym R R<|yp (F7 (A5 R R R) (q28i))<|ym R R<|ym R R<|yp (Dz (Bb R R R) (q31i))<|ym R R<|yp (Ae (s':= .d (.agg (Tp.c x0))) (Ac (Ad R R Cb R lb)) (by kernel_rfl))<|ChK.cons R (CStep.call R (It _ (by assumption)) R)<|yp (Ab R R B1 R R)<|ym R R<|?_
 refine yp (C9 R R R (by omega) (by omega))<|yp (Cu R R R (Mu hs) R D9 (P6 hs))<|yp (Ae (s':= .d (.agg (Tp.c o))) (E3 R R Cb R (Cf (Nr hs)) lb) (by kernel_rfl))<|ChK.cons R (CStep.call R (It _ (by assumption)) R)<|yp (Bb R R R)<|yp (Ba R R (by conv=>lhs;whnf))<|?_
 refine yp (Ba R R (by conv=>lhs;whnf))<|?_
 refine ChK.nil ⟨by kernel_rfl, ?_⟩
 refine zd R (fun c43i=> ?_) (fun c43i=> ?_)
 have hov:D8 x0 (C4 x0 (stk l k)):=by rw [←hp,hend];exact Q9 hs c43i
 refine zr<|za R R<|zn<|zt<|?_
 refine (G0 (l:= [(0, .d (.sl 4 (l.map Tp.c))),(1, .d (dI n)),(6, .fn 165 [] [.ptr 5 0 0]),(19, .d (.sl 4 (l.map Tp.c))),(20, .d (dI l.length)),(21, .d (dI k))]) (by kernel_rfl) (rs1 R (RV.tmp R R)) ?_).2
 exact zp (Dd R R)<|zn<|Aq (by kernel_rfl) R<|zr<|za R R<|zn<|zt<|z1 R R (rI (Ed g11 c14 c17 (by rw [←hgo,Fh hx0 hin hna hov])))
 have hov:¬D8 x0 (C4 x0 (stk l k)):=by rw [←hp,hend];exact Th q28i hs c43i
 refine zi<|zr<|zp (Ab R R B1 R R)<|zp (Ae (s':= .d (.agg (Tp.c x0))) (Ac (Ad R R Cb R lb)) (by kernel_rfl))<|XL.step R (Bj 2046 R Tryz.underlying23 Ej Db R R (by omega) (by omega))<|XL.step R (A7 R G4 (.own R) (Src.own R) (by unfold maxLen;simp;omega) (by simp;omega))<|?_
 refine XL.step R (Ag (l':= [.own 900]) R R R R G9 R lb (by kernel_rfl))<|znr<|za R R<|zn<|zt<|?_
 refine (G0 (l:= [(0, .d (.sl 4 (l.map Tp.c))),(1, .d (dI n)),(6, .fn 165 [] [.ptr 5 0 0]),(19, .d (.sl 4 (l.map Tp.c))),(20, .d (dI l.length)),(21, .d (dI k))]) (by kernel_rfl) (rs1 R (RV.tmp R R)) ?_).2
 refine zp (Dd R R)<|zn<|A9 (by kernel_rfl) R<|zi<|Af (by kernel_rfl)<|zp (Aj R R R (by omega) (by omega))<|zm R R<|zn<|?_
 exact Ak (k+1) (⟨by omega,by rw [Fj,hx0,Cd hx0, ←Gv hx0 hin hna hov];exact hgo,by rw [Cd hx0,List.length_cons, ←hp,hend];omega,fun t ht=>by rw [Cd hx0] at ht;rcases List.mem_cons.1 ht with e|e;(· rw [e];exact hin);(· exact hall t (Ka _ _ t e))⟩) (by omega) (fz ⟨sr,sr,sr,sr,sr,sr,trivial⟩) (gz ⟨rfl,J4 (by rw [Cd hx0, ←hp,hend]),trivial⟩)
 have hov:¬D8 x0 (C4 x0 (stk l k)):=by rw [←hp,hend];exact Ra q28i q31i
 refine Bm [] (by kernel_rfl) (by kernel_rfl) (by kernel_rfl) (by decide)<|ym R R<|yp (F7 (A5 R R R) (q28i))<|ym R R<|ym R R<|yp (F7 (Bb R R R) (q31i))<|ym R R<|ChK.skip R<|ChK.skip R<|ChK.skip R<|ChK.skip R<|ChK.skip R<|ChK.skip R<|ChK.skip R<|?_
 refine ChK.skip R<|ChK.skip R<|yp (Ba R R (by conv=>lhs;whnf))<|?_
 refine yp (Ba R R (by conv=>lhs;whnf))<|?_
 refine ChK.nil ⟨by kernel_rfl, ?_⟩
 refine A9 (by kernel_rfl) R<|zi<|zr<|zp (Ab R R B1 R R)<|zp (Ae (s':= .d (.agg (Tp.c x0))) (Ac (Ad R R Cb R lb)) (by kernel_rfl))<|XL.step R (Bj 2046 R Tryz.underlying23 Ej Db R R (by omega) (by omega))<|XL.step R (A7 R G4 (.own R) (Src.own R) (by unfold maxLen;simp;omega) (by simp;omega))<|?_
 refine XL.step R (Ag (l':= [.own 900]) R R R R G9 R lb (by kernel_rfl))<|znr<|za R R<|zn<|zt<|?_
 refine (G0 (l:= [(0, .d (.sl 4 (l.map Tp.c))),(1, .d (dI n)),(6, .fn 165 [] [.ptr 5 0 0]),(19, .d (.sl 4 (l.map Tp.c))),(20, .d (dI l.length)),(21, .d (dI k))]) (by kernel_rfl) (rs1 R (RV.tmp R R)) ?_).2
 refine zp (Dd R R)<|zn<|A9 (by kernel_rfl) R<|zi<|Af (by kernel_rfl)<|zp (Aj R R R (by omega) (by omega))<|zm R R<|zn<|?_
 exact Ak (k+1) (⟨by omega,by rw [Fj,hx0,Cd hx0, ←Gv hx0 hin hna hov];exact hgo,by rw [Cd hx0,List.length_cons, ←hp,hend];omega,fun t ht=>by rw [Cd hx0] at ht;rcases List.mem_cons.1 ht with e|e;(· rw [e];exact hin);(· exact hall t (Ka _ _ t e))⟩) (by omega) (fz ⟨sr,sr,sr,sr,sr,sr,trivial⟩) (gz ⟨rfl,J4 (by rw [Cd hx0, ←hp,hend]),trivial⟩)
 have hk0b:k=l.length:=by omega
 have hz:Fc n none [] l=0:=by rw [←hgo,hk0b,List.drop_length];rfl
 exact Ap<|zr<|za R R<|zn<|zt<|z1 R R (rI (Ed g11 c14 c17 hz.symm))
end Go.Proofs.YtcihalbakenleaaGreat
namespace Go.Proofs.YtcihalbakenleaaGreat
open Go.RowKit
theorem Zn (t:Tp) (l:List Tp) (n:Int):hits (t::l) n=hits l n+(if t.has n then 1 else 0):=by
 unfold hits
 rw [List.filter_cons]
 by_cases h:t.has n<;>simp [h]
theorem Vc (l:List Tp) (n:Int):hits l n≤l.length:=List.length_filter_le _ _
theorem Aqq (t:Tp) (s:List Tp) (n:Int) (hn:t.first≤n):hits (C4 t s) n=hits s n:=by
 induction s with
 |nil=>rfl
 |cons o r ih=>
  unfold C4
  split
  ·rename_i h
   rw [ih,Zn,if_neg (fun k=>by unfold Tp.has at k;unfold Tp.e at h;omega)]
   rfl
  ·rfl
theorem Akq {q t:Tp} (h:¬0<Lt q t):q.first≤t.first:=by
 unfold Lt at h
 split at h
 ·split at h<;>omega
 ·omega
theorem Aj0 (n:Int) (l:List Tp):∀(p:Option Tp) (s L:List Tp),Fc n p s l=0→s.length≤3→(∀e,hits L e≤3)→(∀e,(∀q,p=some q→q.first≤e)→hits L e=hits s e)→∀e,hits (L++l) e≤3:=by
 induction l with
 |nil=>intro p s L _ _ h1 _ e;rw [List.append_nil];exact h1 e
 |cons t l ih=>
  intro p s L hz hs h1 h2 e
  rw [Fc] at hz
  split at hz
  ·omega
  ·split at hz
   ·omega
   ·rename_i hin hna
    split at hz
    ·omega
    ·rename_i hov
     have hp:∀q,p=some q→q.first≤t.first:=fun q hq=>by subst hq;exact Akq hna
     have h3:(t::C4 t s).length≤3:=by
      have h4:=App t s
      have h5:¬(C4 t s).length=3:=fun k=>hov (.inl k)
      rw [List.length_cons]
      omega
     have heq:∀e,t.first≤e→hits (L++ [t]) e=hits (t::C4 t s) e:=fun e he=>by
      rw [I3,Zn,Aqq t s e he,h2 e (fun q hq=>Int.le_trans (hp q hq) he)]
     have:=ih (some t) (t::C4 t s) (L++ [t]) hz h3 (fun e=> ?_) (fun e he=>heq e (he t rfl)) e
     ·rw [List.append_assoc] at this;exact this
     ·by_cases he:t.first≤e
      ·rw [heq e he];exact Nat.le_trans (Vc _ _) h3
      ·rw [I3,if_neg (fun k=>he k.1)];exact h1 e
theorem Aoy (n:Int) (l:List Tp):∀(p:Option Tp) (s:List Tp),Fc n p s l=0→∀t∈l,t.inR n:=by
 induction l with
 |nil=>intro p s _ t ht;cases ht
 |cons t l ih=>
  intro p s hz x hx
  rw [Fc] at hz
  split at hz
  ·omega
  ·rename_i hin
   split at hz
   ·omega
   ·split at hz
    ·omega
    ·rcases List.mem_cons.1 hx with e|e
     ·rw [e];exact Decidable.not_not.1 hin
     ·exact ih _ _ hz x e
structure Tups (l:List Tp) (n:Int):Prop where
 bd:0≤n∧n≤128
 len:l.length≤16
 inR:∀t∈l,t.inR n
 ok:∀t∈l,t.ok
 hits:∀e,hits l e≤3
theorem S6 {l:List Tp} {n:Int} (h:¬Ew l n≠0):Tups l n:=by
 have h0:Ew l n=0:=by omega
 unfold Ew at h0
 split at h0
 ·omega
 ·split at h0
  ·omega
  ·have hi:=Aoy n l _ _ h0
   refine ⟨by omega,by omega,hi,fun t ht=>(hi t ht).ok (by omega),fun e=> ?_⟩
   have:=Aj0 n l none [] [] h0 (by decide) (fun e=>Nat.zero_le _) (fun e _=>rfl) e
   rwa [List.nil_append] at this
def Dg (l:List Tp):Nat→List Int→List Int
 |_, []=> []
 |i,w::r=>Ek l i w::Dg l (i+1) r
def I9 (l:List Tp):Nat→List Int→Int
 |_, []=>0
 |i,w::r=>if El l i w≠0 then El l i w else I9 l (i+1) r
def C1 (l:List Tp) (ws:List Int):Int:=if Ew l ws.length≠0 then Ew l ws.length else I9 l 0 ws
def Id (l:List Tp) (ws:List Int):List Int:=if C1 l ws=0 then Dg l 0 ws else []
theorem Aky (l:List Tp) (a:List Int) (w:Int):∀i,Dg l i (a++ [w])=Dg l i a++ [Ek l ((i+a.length:Nat):Int) w]:=by
 induction a with
 |nil=>intro i;rfl
 |cons x a ih=>
  intro i
  rw [List.cons_append,Dg,ih (i+1),Dg,List.cons_append,List.length_cons,show i+1+a.length=i+(a.length+1) by omega]
theorem T6 {l:List Tp} {ws:List Int} {k:Nat} {w:Int} (h:ws[k]? =some w):Dg l 0 (ws.take (k+1))=Dg l 0 (ws.take k)++ [Ek l (k:Int) w]:=by
 have hk:=(List.getElem?_eq_some_iff.1 h).1
 rw [Bp h,Aky,List.length_take,Nat.zero_add,Nat.min_eq_left (by omega)]
theorem Jh (l:List Tp) (ws:List Int):∀i,(Dg l i ws).length=ws.length:=by
 induction ws with
 |nil=>intro i;rfl
 |cons w r ih=>intro i;rw [Dg,List.length_cons,ih,List.length_cons]
theorem Yp {l:List Tp} {ws:List Int} {k:Nat} {w:Int} (h:ws[k]? =some w) (hx:¬El l k w≠0):I9 l k (ws.drop k)=I9 l (k+1) (ws.drop (k+1)):=by rw [C2 h,I9,if_neg hx]
theorem J8 {l:List Tp} {ws:List Int} {k:Nat} {w:Int} (h:ws[k]? =some w) (hx:El l k w≠0):I9 l k (ws.drop k)=El l k w:=by rw [C2 h,I9,if_pos hx]
theorem Vx {l:List Tp} {ws:List Int} (h:Ew l ws.length≠0): []=Id l ws∧Ew l ws.length=C1 l ws:=by
 have e:C1 l ws=Ew l ws.length:=by rw [C1,if_pos h]
 exact ⟨by rw [Id,e,if_neg h],e.symm⟩
theorem Mv {l:List Tp} {ws:List Int} (h:¬Ew l ws.length≠0) {e:Int} (he:e=I9 l 0 ws) (hn:e≠0): []=Id l ws∧e=C1 l ws:=by
 have e2:C1 l ws=e:=by rw [C1,if_neg h,he]
 exact ⟨by rw [Id,e2,if_neg hn],e2.symm⟩
theorem Vw {l:List Tp} {ws:List Int} (h:¬Ew l ws.length≠0) (he:I9 l 0 ws=0):Dg l 0 ws=Id l ws∧0=C1 l ws:=by
 have e2:C1 l ws=0:=by rw [C1,if_neg h,he]
 exact ⟨by rw [Id,e2,if_pos rfl],e2.symm⟩
theorem Tz (l:List Tp) (ws:List Int):XC Tryz.prog 133 [.sl 4 (l.map Tp.c), .sl 1 (B8 ws)] (fun r=>r= .tup [.sl 1 (B8 (Id l ws)),dI (C1 l ws)]):=by
 refine Ao Aem Tryz.func133 R R lb<|zr<|za R R<|za R R<|zn<|zs<|zr<|zm R R<|zm R R<|XL.len R R R Tryz.underlying64 fun hl14=>XL.call1 R R (Yl _ _) R<|za R R<|znr<|zm R R<|?_
 refine zp (Be R R R)<|zn<|?_
 refine zd R (fun c17=> ?_) (fun c17=> ?_)
 refine zr<|zm R R<|za R R<|za R R<|zn<|zt<|?_
 exact Bh R (RV.nil (sz:=1) R R) (RV.tmp R R) (r2 (rSl (Vx c17).1) (rI (Vx c17).2))
 refine zi<|zs<|?_
 have hT:=S6 c17
 have hbd:=hT.bd
 refine Af (by kernel_rfl)<|zm R R<|XL.len R R R Tryz.underlying64 fun hl20=>XL.step R (P9 21 (m:=0) (z:=(.int .i64 0)) (zs:= [dI 0]) (sz:=1) (bytes:=8) R R R Tryz.underlying64 (by kernel_rfl) (by kernel_rfl) (by kernel_rfl) (by decide) (by decide) (by omega) (by unfold maxLen;omega) (by omega))<|zp (Ar R (by conv=>lhs;whnf))<|?_
 refine zn<|zs<|zr<|zm R R<|XL.len R R R Tryz.underlying64 fun hl23=>zm R R<|zn<|Ah<|?_
 refine Ay (α:=Nat) (fun k=>k≤ws.length∧I9 l k (ws.drop k)=I9 l 0 ws) (fun k=>mkF [(0, .d (.sl 4 (l.map Tp.c))),(7, .own 21),(22, .d (.sl 1 (B8 ws))),(23, .d (dI ws.length)),(24, .d (dI k))]) (fun k=>mkH [(21, .row 3 1 ((Dg l 0 (ws.take k)).map iv))]) (fun k=>ws.length - k) (0) (⟨Nat.zero_le _,by rw [List.drop_zero]⟩) ?_ ?_ ?_
 exact fz ⟨sr,sr,sr,sr,sr,trivial⟩
 exact gz ⟨R,trivial⟩
 intro k hk0
 obtain ⟨hk,hgo⟩:=hk0
 refine zr<|zp (As R R R)<|zn<|zs<|?_
 refine zd R (fun c25=> ?_) (fun c25=> ?_)
 have hk0a:k<ws.length:=by omega
 obtain ⟨x0,hx0⟩:=Au hk0a
 have hok:=hT.ok
 have hh:=hT.hits k
 have hll:(Dg l 0 (ws.take k)).length=k:=by rw [Jh,List.length_take];omega
 refine zi<|zs<|Ah<|zr<|zm R R<|zp (Am R R R C5 hx0)<|zp (Az R R Ai)<|za R R<|za R R<|znr<|zm R R<|zm R R<|zm R R<|XL.call1 R R (Aa8 _ _ _ (by assumption) (by assumption) (by omega) (by omega)) R<|?_
 refine zm R R<|zp (A6 R R R)<|zp (A6 R R R)<|za R R<|za R R<|zn<|zs<|zr<|zm R R<|zp (Be R R R)<|zn<|?_
 refine zd R (fun c37=> ?_) (fun c37=> ?_)
 refine zr<|zm R R<|za R R<|za R R<|zn<|zt<|?_
 exact Bh R (RV.nil (sz:=1) R R) (RV.tmp R R) (r2 (rSl (Mv c17 (by rw [←hgo,J8 hx0 c37]) c37).1) (rI (Mv c17 (by rw [←hgo,J8 hx0 c37]) c37).2))
 refine zi<|Af (by kernel_rfl)<|zp (Aw R (by conv=>lhs;whnf))<|?_
 refine zm R R<|XL.step R (Bj 41 R Tryz.underlying64 Cs Eu R R (by omega) (by omega))<|XL.step R (A7 R H3 (.own R) (Src.own R) (by unfold maxLen;simp;omega) (by simp;omega))<|zp (Ar R (by conv=>lhs;whnf))<|?_
 refine zn<|Af (by kernel_rfl)<|zp (Aj R R R (by omega) (by omega))<|zm R R<|zn<|?_
 exact Ak (k+1) (⟨by omega,by rw [←Yp hx0 c37];exact hgo⟩) (by omega) (fz ⟨sr,sr,sr,sr,sr,trivial⟩) (gz ⟨Ea rfl (T6 hx0),trivial⟩)
 have hk0b:k=ws.length:=by omega
 have hz:I9 l 0 ws=0:=by rw [←hgo,hk0b,List.drop_length];rfl
 have ht:ws.take k=ws:=by rw [hk0b,List.take_length]
 refine Ap<|zr<|zp (Aw R (by conv=>lhs;whnf))<|?_
 refine zp (Ar R (by conv=>lhs;whnf))<|?_
 refine za R R<|zn<|zt<|Bg (i:=21) R<|?_
 exact Bh R (RV.tmp R R) (RV.tmp R R) (r2 (rSl (by rw [ht];exact (Vw c17 hz).1)) (rI (Vw c17 hz).2))
abbrev Ky (l:List Tp) (i:Nat):List Tp:=(l.take l.length).drop (i+1)
def F2 (l:List Tp):Nat→List Int→Int→Option Int
 |_, [],acc=>some acc
 |i,w::r,acc=>if El l i w≠0 then none else F2 l (i+1) r (acc+Ek l i w)
def Gk (t:Tp) (ws:List Int):List Int:=(ws.drop t.first.toNat).take t.count.toNat
def Sm (a s:Int):Option Int:=((List.range 10).find? fun j=>decide (s=a*(3870720 / 2 ^ j))).map fun j=>(j:Int) - 1
def Fv (l:List Tp) (t:Tp) (ws:List Int):Option Int:=(F2 l t.first.toNat (Gk t ws) 0).bind (Sm t.actual)
def Qn (l:List Tp) (i:Nat) (ws:List Int):Option Int:=(l[i]?).bind fun t=>Fv (Ky l i) t ws
theorem K4 {l:List Tp} {i:Nat} {t:Tp} (h:l[i]? =some t) (ws:List Int):Qn l i ws=Fv (Ky l i) t ws:=by rw [Qn,h];rfl
theorem Xl {t:Tp} {ws:List Int} {j:Nat} (hj:j<t.count.toNat):(Gk t ws)[j]? =ws[t.first.toNat+j]? :=by
 rw [Gk,List.getElem?_take,if_pos hj,List.getElem?_drop]
theorem Vv {l:List Tp} {i k:Nat} {seg:List Int} {w acc:Int} (h:seg[k]? =some w) (hx:¬El l i w≠0):F2 l i (seg.drop k) acc=F2 l (i+1) (seg.drop (k+1)) (acc+Ek l i w):=by rw [C2 h,F2,if_neg hx]
theorem Vu {l:List Tp} {i k:Nat} {seg:List Int} {w acc:Int} (h:seg[k]? =some w) (hx:El l i w≠0):F2 l i (seg.drop k) acc=none:=by rw [C2 h,F2,if_pos hx]
theorem Yj {l:List Tp} {i k:Nat} {seg:List Int} {acc:Int} (h:seg.length≤k):F2 l i (seg.drop k) acc=some acc:=by rw [List.drop_eq_nil_of_le h,F2]
theorem Atz {p:Nat→Bool} {m k:Nat} (hk:k<m) (hp:p k=true) (h:∀j,j<k→p j=false):(List.range m).find? p=some k:=by
 rw [List.find?_range_eq_some]
 exact ⟨hp,List.mem_range.2 hk,fun j hj=>by simp [h j hj]⟩
theorem Ai4 {a s:Int} {k:Nat} (hk:k<10) (hp:s=a*(3870720 / 2 ^ k)) (h:∀j,j<k→¬s=a*(3870720 / 2 ^ j)):Sm a s=some ((k:Int) - 1):=by
 rw [Sm,Atz hk (decide_eq_true hp) (fun j hj=>decide_eq_false (h j hj))];rfl
theorem Zh {a s:Int} (h:∀j,j<10→¬s=a*(3870720 / 2 ^ j)):Sm a s=none:=by
 rw [Sm,List.find?_eq_none.2 (fun j hj=>by simp [h j (List.mem_range.1 hj)])];rfl
theorem Nd {l:List Tp} {t:Tp} {ws:List Int} {s:Int} (h:F2 l t.first.toNat (Gk t ws) 0=some s):Fv l t ws=Sm t.actual s:=by rw [Fv,h];rfl
theorem Vt {l:List Tp} {t:Tp} {ws:List Int} (h:F2 l t.first.toNat (Gk t ws) 0=none):Fv l t ws=none:=by rw [Fv,h];rfl
theorem Rb {o:Option Int} (h:o=none):D.tup [dI 0,dB false]= .tup [dI (o.getD 0),dB o.isSome]:=by rw [h];rfl
theorem Abx {o:Option Int} {x:Int} (h:o=some x):D.tup [dI x,dB true]= .tup [dI (o.getD 0),dB o.isSome]:=by rw [h];rfl
theorem Auo (k:Nat):0≤(3870720:Int) / 2 ^ k∧(3870720:Int) / 2 ^ k≤3870720:=by
 have h:(0:Int)<2 ^ k:=Int.pow_pos (by omega)
 exact ⟨Int.ediv_nonneg (by omega) (by omega),Int.ediv_le_self _ (by omega)⟩
theorem Asa (l:List Tp) (i:Nat) (t:Tp) (ws:List Int) (ht:l[i]? =some t) (hT:Tups l ws.length):XC Tryz.prog 164 [.sl 4 (l.map Tp.c), .v (.int .i64 i), .sl 1 (B8 ws)] (fun r=>r= .tup [dI ((Fv (Ky l i) t ws).getD 0),dB (Fv (Ky l i) t ws).isSome]):=by
 have hin:=hT.inR t (List.mem_of_getElem? ht)
 have hok:=hT.ok t (List.mem_of_getElem? ht)
 have hbd:=hT.bd
 have hlen:=hT.len
 have hil:=(List.getElem?_eq_some_iff.1 ht).1
 have hin2:=hin
 simp only [Tp.inR] at hin2
 have hte:t.e=t.first+t.count:=rfl
 obtain ⟨f,hf⟩:∃f:Nat,t.first=f:=⟨t.first.toNat,by omega⟩
 have hf2:t.first.toNat=f:=by omega
 have hsl:(Gk t ws).length=t.count.toNat:=by rw [Gk,List.length_take,List.length_drop];omega
 have hoks:∀x∈(l.take l.length).drop (i+1),x.ok:=Ai1 (Xq hT.ok _) _
 have hhs:∀e,hits ((l.take l.length).drop (i+1)) e≤3:=fun e=>Nat.le_trans (Zm _ _ e) (Nat.le_trans (Pf _ _ e) (hT.hits e))
 refine Ao Adr Tryz.func164 R R lb<|zr<|za R R<|za R R<|znr<|zm R R<|zm R R<|zp (Am R R R D9 (ht))<|zp (Ae (s':= .d (.agg (Tp.c t))) (Av R R Cb lb) (by kernel_rfl))<|XL.step R (A0 8 (l:= [.d (dI 0), .d (dI 0), .d (dI 0), .d (dI 0)]) R Db (by kernel_rfl))<|?_
 refine XL.step R (Ag (l':= [.d (dI t.first), .d (dI t.count), .d (dI t.actual), .d (dI t.normal)]) R R R R Ej R lb (by kernel_rfl))<|znr<|za R R<|zn<|zs<|zr<|zp (Aa R R Bv)<|zp (Ab R R Ai R R)<|za R R<|zn<|Ah<|?_
 refine Ay (α:=Nat × Int) (fun p=>p.1≤t.count.toNat∧F2 ((l.take l.length).drop (i+1)) (f+p.1) ((Gk t ws).drop p.1) p.2=F2 ((l.take l.length).drop (i+1)) f (Gk t ws) 0∧0≤p.2∧p.2≤(p.1:Int)*253671505920) (fun p=>mkF [(0, .d (.sl 4 (l.map Tp.c))),(1, .d (dI i)),(2, .d (.sl 1 (B8 ws))),(8, .ptr 8 0 0),(9, .d (dI p.2)),(10, .d (dI ((f+p.1:Nat):Int)))]) (fun p=>mkH [(8, .box ((Tp.c t).map S.d))]) (fun p=>t.count.toNat - p.1) ((0,0)) (⟨Nat.zero_le _,by rw [List.drop_zero];rfl,Int.le_refl _,by simp⟩) ?_ ?_ ?_
 exact fz ⟨sr,sr,sr,sr,sr, .same (sI (by rw [hf];rfl)),trivial⟩
 exact gz ⟨R,trivial⟩
 intro p hk0
 obtain ⟨hk,hgo,hs0,hs1⟩:=hk0
 refine zs<|zr<|zm R R<|zp (Ae (s':= .d (.agg (Tp.c t))) (Ac (Ad R R Cb R lb)) (by kernel_rfl))<|XL.call1 R R (It _ (by assumption)) R<|zp (As R R R)<|zn<|?_
 refine zd R (fun c23=> ?_) (fun c23=> ?_)
 have hkc:p.1<t.count.toNat:=by omega
 obtain ⟨w,hw⟩:∃w,ws[f+p.1]? =some w:=Au (by omega)
 have hsw:(Gk t ws)[p.1]? =some w:=by rw [Xl hkc,hf2];exact hw
 have hh:=hhs ((f+p.1:Nat):Int)
 have hsb:=Uu (n:=((f+p.1:Nat):Int)) (w:=w) hoks hh
 refine zi<|zs<|Ah<|zs<|Bm [] (by kernel_rfl) (by kernel_rfl) (by kernel_rfl) (by decide)<|ym R R<|ym R R<|yp (Aj R R R (by omega) (by omega))<|yp (Ee R R D9 (Bd.ati (a:=i+1) R (by omega)) Bd.no (by omega) (by omega))<|ym R R<|ym R R<|ym R R<|yp (Am R R R C5 (hw))<|yp (Az R R Ai)<|?_
 refine ChK.cons R (CStep.call R (Aa8 _ _ _ (by assumption) (by assumption) (by omega) (by omega)) R)<|ym R R<|yp (A6 R R R)<|yp (A6 R R R)<|ya R R<|ya R R<|?_
 refine ChK.nil ⟨by kernel_rfl, ?_⟩
 refine zs<|zr<|zm R R<|zp (Be R R R)<|zn<|?_
 refine zd R (fun c40=> ?_) (fun c40=> ?_)
 refine zr<|za R R<|za R R<|zn<|zt<|?_
 exact Bh R (RV.tmp R R) (RV.tmp R R) (Rb (Vt (by rw [hf2, ←hgo];exact Vu hsw c40)))
 refine zi<|Af (by kernel_rfl)<|zm R R<|zm R R<|zp (Aj R R R (by omega) (by omega))<|za R R<|zn<|Af (by kernel_rfl)<|zm R R<|zp (Aj R R R (by omega) (by omega))<|za R R<|zn<|?_
 exact Ak ((p.1+1,p.2+Ek ((l.take l.length).drop (i+1)) ((f+p.1:Nat):Int) w)) (⟨by simp only;omega,(Vv hsw c40).symm.trans hgo,by simp only;omega,by simp only;omega⟩) (by simp only;omega) (fz ⟨sr,sr,sr,sr,sr,sr,trivial⟩) (gz ⟨rfl,trivial⟩)
 have hu:F2 ((l.take l.length).drop (i+1)) t.first.toNat (Gk t ws) 0=some p.2:=by rw [hf2, ←hgo];exact Yj (by omega)
 refine Ap<|zs<|zr<|za R R<|zn<|Ah<|?_
 refine Ay (α:=Nat) (fun k=>k≤10∧∀j,j<k→¬p.2=t.actual*(3870720 / 2 ^ j)) (fun k=>mkF [(8, .ptr 8 0 0),(9, .d (dI p.2)),(13, .d (dI ((k:Int) - 1)))]) (fun k=>mkH [(8, .box ((Tp.c t).map S.d))]) (fun k=>10 - k) (0) (⟨Nat.zero_le _,fun j hj=>absurd hj (Nat.not_lt_zero _)⟩) ?_ ?_ ?_
 exact fz ⟨sr,sr,sr,trivial⟩
 exact gz ⟨R,trivial⟩
 intro k hk2
 obtain ⟨hk,hno⟩:=hk2
 have hkk:((k:Int) - 1+1).toNat=k:=by omega
 have hsh:=Auo k
 refine zs<|zr<|zm R R<|zp (Fx R R R)<|zn<|?_
 refine zd R (fun c45=> ?_) (fun c45=> ?_)
 have hml1:0≤t.actual*(3870720 / 2 ^ k):=Int.mul_nonneg (by omega) hsh.1
 have hml2:t.actual*(3870720 / 2 ^ k)≤32*3870720:=Int.mul_le_mul (by omega) hsh.2 hsh.1 (by omega)
 refine zi<|zs<|Ah<|zs<|Bm [] (by kernel_rfl) (by kernel_rfl) (by kernel_rfl) (by decide)<|ym R R<|yp (Aa R R M3)<|yp (Ab R R Ai R R)<|ym R R<|yp (Aj R R R (by omega) (by omega))<|yp (Aac R R R (by omega) (by omega))<|yp (H7 R R R (by rw [hkk];omega) (by rw [hkk];omega))<|yp (A5 R R R)<|?_
 refine ChK.nil ⟨by kernel_rfl, ?_⟩
 refine zd R (fun c55=> ?_) (fun c55=> ?_)
 refine zr<|zm R R<|za R R<|za R R<|zn<|zt<|?_
 exact Bh R (RV.tmp R R) (RV.tmp R R) (Abx (by rw [Nd hu];exact Ai4 (by omega) (by rw [hkk] at c55;exact c55) hno))
 refine zi<|Af (by kernel_rfl)<|zm R R<|zp (Aj R R R (by omega) (by omega))<|za R R<|zn<|?_
 exact Ak (k+1) (⟨by omega,fun j hj=>by by_cases e:j=k;(· subst e;rw [hkk] at c55;exact c55);(· exact hno j (by omega))⟩) (by omega) (fz ⟨sr,sr, .same (sI (by omega)),trivial⟩) (gz ⟨rfl,trivial⟩)
 have hke:k=10:=by omega
 have hnone:Sm t.actual p.2=none:=Zh (fun j hj=>hno j (by omega))
 refine Ap<|zr<|za R R<|za R R<|zn<|zt<|?_
 exact Bh R (RV.tmp R R) (RV.tmp R R) (Rb (by rw [Nd hu];exact hnone))
theorem I1 {l:List Tp} {ws:List Int} (h:¬C1 l ws≠0):Tups l ws.length:=by
 unfold C1 at h
 split at h
 ·rename_i h2;exact absurd h2 h
 ·rename_i h2;exact S6 h2
def Js (l:List Tp) (ws:List Int):Prop:=∀j,j<l.length→(Qn l j ws).isSome=true
instance (l:List Tp) (ws:List Int):Decidable (Js l ws):=by unfold Js;exact inferInstance
def F3 (l:List Tp) (ws:List Int):Int:=if C1 l ws≠0 then C1 l ws else if Js l ws then 0 else 21
def Ou (l:List Tp) (ws:List Int) (k:Nat):List Int:=(List.range k).map fun j=>(Qn l j ws).getD 0
def N1 (l:List Tp) (ws:List Int):List Int:=if F3 l ws=0 then Ou l ws l.length else []
theorem Ajz {l:List Tp} {ws:List Int} {k:Nat} {t:Tp} (h:l[k]? =some t):Ou l ws (k+1)=Ou l ws k++ [(Fv (Ky l k) t ws).getD 0]:=by
 rw [Ou,List.range_succ,List.map_append,List.map_singleton,K4 h];rfl
theorem Al7 (l:List Tp) (ws:List Int) (k:Nat):(Ou l ws k).length=k:=by rw [Ou,List.length_map,List.length_range]
theorem Auf {l:List Tp} {ws:List Int} (h:C1 l ws≠0): []=N1 l ws∧C1 l ws=F3 l ws:=by
 have e:F3 l ws=C1 l ws:=by rw [F3,if_pos h]
 exact ⟨by rw [N1,e,if_neg h],e.symm⟩
theorem Aj2 {l:List Tp} {ws:List Int} (h:¬C1 l ws≠0) {k:Nat} {t:Tp} (ht:l[k]? =some t) (hn:(!(Fv (Ky l k) t ws).isSome)=true): []=N1 l ws∧21=F3 l ws:=by
 have e:F3 l ws=21:=by
  rw [F3,if_neg h,if_neg fun ha=> ?_]
  have:=ha k (List.getElem?_eq_some_iff.1 ht).1
  rw [K4 ht] at this
  rw [this] at hn
  cases hn
 exact ⟨by rw [N1,e,if_neg (by decide)],e.symm⟩
theorem Aj1 {l:List Tp} {ws:List Int} (h:¬C1 l ws≠0) (ha:Js l ws):Ou l ws l.length=N1 l ws∧0=F3 l ws:=by
 have e:F3 l ws=0:=by rw [F3,if_neg h,if_pos ha]
 exact ⟨by rw [N1,e,if_pos rfl],e.symm⟩
theorem Aox (l:List Tp) (ws:List Int):XC Tryz.prog 134 [.sl 4 (l.map Tp.c), .sl 1 (B8 ws)] (fun r=>r= .tup [.sl 1 (B8 (N1 l ws)),dI (F3 l ws)]):=by
 refine Ao Ael Tryz.func134 R R lb<|zr<|za R R<|za R R<|zn<|zs<|zr<|zm R R<|zm R R<|XL.call1 R R (Tz _ _) R<|zm R R<|zp (A6 R R R)<|zp (A6 R R R)<|za R R<|?_
 refine za R R<|znr<|zm R R<|zp (Be R R R)<|zn<|?_
 refine zd R (fun c19=> ?_) (fun c19=> ?_)
 refine zr<|zm R R<|za R R<|za R R<|zn<|zt<|?_
 exact Bh R (RV.nil (sz:=1) R R) (RV.tmp R R) (r2 (rSl (Auf c19).1) (rI (Auf c19).2))
 refine zi<|zs<|?_
 have hT:=I1 c19
 have hbd:=hT.bd
 have hlen:=hT.len
 refine Af (by kernel_rfl)<|zm R R<|XL.len R R R Tryz.underlying23 fun hl22=>XL.step R (P9 23 (m:=0) (z:=(.int .i64 0)) (zs:= [dI 0]) (sz:=1) (bytes:=8) R R R Tryz.underlying64 (by kernel_rfl) (by kernel_rfl) (by kernel_rfl) (by decide) (by decide) (by omega) (by unfold maxLen;omega) (by omega))<|zp (Ar R (by conv=>lhs;whnf))<|?_
 refine zn<|zs<|zr<|zm R R<|XL.len R R R Tryz.underlying23 fun hl25=>zm R R<|zn<|Ah<|?_
 refine Ay (α:=Nat) (fun k=>k≤l.length∧∀j,j<k→(Qn l j ws).isSome=true) (fun k=>mkF [(0, .d (.sl 4 (l.map Tp.c))),(1, .d (.sl 1 (B8 ws))),(8, .own 23),(25, .d (dI l.length)),(26, .d (dI k))]) (fun k=>mkH [(23, .row 3 1 ((Ou l ws k).map iv))]) (fun k=>l.length - k) (0) (⟨Nat.zero_le _,fun j hj=>absurd hj (Nat.not_lt_zero _)⟩) ?_ ?_ ?_
 exact fz ⟨sr,sr,sr,sr,sr,trivial⟩
 exact gz ⟨R,trivial⟩
 intro k hk0
 obtain ⟨hk,hall⟩:=hk0
 refine zr<|zp (As R R R)<|zn<|zs<|?_
 refine zd R (fun c27=> ?_) (fun c27=> ?_)
 have hk0a:k<l.length:=by omega
 obtain ⟨x0,hx0⟩:=Au hk0a
 have hll:=Al7 l ws k
 refine zi<|zs<|Ah<|zr<|zm R R<|za R R<|znr<|zm R R<|zm R R<|zm R R<|XL.call1 R R (Asa _ _ _ _ hx0 hT) R<|zm R R<|zp (A6 R R R)<|zp (A6 R R R)<|?_
 refine za R R<|za R R<|zn<|zs<|zr<|zm R R<|zp (Dd R R)<|zn<|?_
 refine Dw (by kernel_rfl) R (fun c37=> ?_) (fun c37=> ?_)
 refine zr<|za R R<|za R R<|zn<|zt<|?_
 exact Bh R (RV.nil (sz:=1) R R) (RV.tmp R R) (r2 (rSl (Aj2 c19 hx0 c37).1) (rI (Aj2 c19 hx0 c37).2))
 refine zi<|Af (by kernel_rfl)<|zp (Aw R (by conv=>lhs;whnf))<|?_
 refine zm R R<|XL.step R (Bj 40 R Tryz.underlying64 Cs Eu R R (by omega) (by omega))<|XL.step R (A7 R H3 (.own R) (Src.own R) (by unfold maxLen;simp;omega) (by simp;omega))<|zp (Ar R (by conv=>lhs;whnf))<|?_
 refine zn<|Af (by kernel_rfl)<|zp (Aj R R R (by omega) (by omega))<|zm R R<|zn<|?_
 exact Ak (k+1) (⟨by omega,fun j hj=>by by_cases e:j=k;(· subst e;rw [K4 hx0];exact (by simpa using c37));(· exact hall j (by omega))⟩) (by omega) (fz ⟨sr,sr,sr,sr,sr,trivial⟩) (gz ⟨Ea rfl (Ajz hx0),trivial⟩)
 have hk0b:k=l.length:=by omega
 have ha:Js l ws:=fun j hj=>hall j (by omega)
 refine Ap<|zr<|zp (Aw R (by conv=>lhs;whnf))<|?_
 refine zp (Ar R (by conv=>lhs;whnf))<|?_
 refine za R R<|zn<|zt<|Bg (i:=23) R<|?_
 exact Bh R (RV.tmp R R) (RV.tmp R R) (r2 (rSl (by rw [hk0b];exact (Aj1 c19 ha).1)) (rI (Aj1 c19 ha).2))
def G5 (l:List Tp) (n:Int):Int:=if Ew l 128≠0 then 0 else (hits l n:Int)
theorem Vb {l:List Tp} {k:Nat} {t:Tp} {n:Int} (h:l[k]? =some t) (ht:t.has n):hits (l.take (k+1)) n=hits (l.take k) n+1:=by rw [Bp h,I3,if_pos ht]
theorem X0 {l:List Tp} {k:Nat} {t:Tp} {n:Int} (h:l[k]? =some t) (ht:¬t.has n):hits (l.take (k+1)) n=hits (l.take k) n:=by rw [Bp h,I3,if_neg ht];rfl
theorem Acw (l:List Tp) (n:Int) (h0:0≤n) (h1:n≤128):XC Tryz.prog 94 [.sl 4 (l.map Tp.c), .v (.int .i64 n)] (fun r=>r=dI (G5 l n)):=by
 refine Ao Agb Tryz.func94 R R lb<|zr<|za R R<|zn<|zs<|zr<|zm R R<|XL.call1 R R (Yl _ _) R<|zp (Be R R R)<|zn<|?_
 refine zd R (fun c10=> ?_) (fun c10=> ?_)
 exact zr<|za R R<|zn<|zt<|z1 R R (rI (by rw [G5,if_pos c10]))
 refine zi<|zs<|?_
 have hT:=S6 c10
 refine Af (by kernel_rfl)<|za R R<|zn<|zs<|zr<|zm R R<|XL.len R R R Tryz.underlying23 fun hl12=>zm R R<|zn<|Ah<|?_
 refine Ay (α:=Nat) (fun k=>k≤l.length) (fun k=>mkF [(1, .d (dI n)),(4, .d (dI 0)),(5, .d (dI (hits (l.take k) n:Int))),(11, .d (.sl 4 (l.map Tp.c))),(12, .d (dI l.length)),(13, .d (dI k))]) (fun k=>mkH []) (fun k=>l.length - k) (0) (Nat.zero_le _) ?_ ?_ ?_
 exact fz ⟨sr,sr,sr,sr,sr,sr,trivial⟩
 exact HSub.nil
 intro k hk0
 refine zr<|zp (As R R R)<|zn<|zs<|?_
 refine zd R (fun c14=> ?_) (fun c14=> ?_)
 have hk0a:k<l.length:=by omega
 obtain ⟨x0,hx0⟩:=Au hk0a
 have hok:=hT.ok x0 (List.mem_of_getElem? hx0)
 have hle:=Nat.le_trans (Pf l k n) (hT.hits n)
 refine zi<|zs<|Ah<|zr<|zp (Am R R R D9 hx0)<|zp (Ae (s':= .d (.agg (Tp.c x0))) (Av R R Cb lb) (by kernel_rfl))<|XL.step R (A0 7 (l:= [.d (dI 0), .d (dI 0), .d (dI 0), .d (dI 0)]) R Db (by kernel_rfl))<|XL.step R (Ag (l':= [.d (dI x0.first), .d (dI x0.count), .d (dI x0.actual), .d (dI x0.normal)]) R R R R Ej R lb (by kernel_rfl))<|znr<|?_
 refine zp (Ae (s':= .d (.agg (Tp.c x0))) (Ac (Ad R R Cb R lb)) (by kernel_rfl))<|zm R R<|XL.call1 R R (Ub _ _ (by assumption) (by omega) (by omega)) R<|zn<|?_
 refine zd R (fun c19=> ?_) (fun c19=> ?_)
 refine Af (by kernel_rfl)<|zm R R<|zp (Aj R R R (by omega) (by omega))<|za R R<|zn<|Af (by kernel_rfl)<|zp (Aj R R R (by omega) (by omega))<|zm R R<|zn<|?_
 exact Ak (k+1) (by omega) (by omega) (fz ⟨sr,sr, .same (sI (by rw [Vb hx0 c19];rfl)),sr,sr,sr,trivial⟩) (HSub.nil)
 refine zi<|Af (by kernel_rfl)<|zp (Aj R R R (by omega) (by omega))<|zm R R<|zn<|?_
 exact Ak (k+1) (by omega) (by omega) (fz ⟨sr,sr, .same (sI (by rw [X0 hx0 c19])),sr,sr,sr,trivial⟩) (HSub.nil)
 have hk0b:k=l.length:=by omega
 have ht:l.take k=l:=by rw [hk0b,List.take_length]
 exact Ap<|zr<|zm R R<|za R R<|zn<|zt<|z1 R R (rI (by rw [G5,if_neg c10,ht]))
end Go.Proofs.YtcihalbakenleaaGreat
namespace Go.Proofs.YtcihalbakenleaaGreat
open Go.RowKit
def Xb (ops:Array Oper) (j i:Nat):Bool:=match ops[j]? with
 |some o=>o.after.toList.any fun e=>Region.binds .any e && Nat.beq e.on i
 |none=>false
def Alt (ops:Array Oper):Bool:=(List.range ops.size).all fun j=>match ops[j]? with
 |some o=>o.after.toList.all fun e=> !Region.binds .any e||Nat.blt e.on j
 |none=>true
def Up (ops:Array Oper) (p:Nat):Bool:=
 Alt ops && ((List.range p).all fun k=>(List.range (p+1)).any fun k'=>Nat.blt k k' && Xb ops k' k) && ((List.range ops.size).all fun j=> !Nat.blt p j||Xb ops j (j - 1))
theorem Rp {ops:Array Oper} {j i:Nat} (h:Xb ops j i=true):∃o e,ops[j]? =some o∧e∈o.after∧Region.binds .any e=true∧e.on=i:=by
 unfold Xb at h
 cases ho:ops[j]? with
 |none=>rw [ho] at h;cases h
 |some o=>
  rw [ho] at h
  simp only [List.any_eq_true,Bool.and_eq_true] at h
  obtain ⟨e,he,hb,h2⟩:=h
  exact ⟨o,e,rfl,by simpa using he,hb,Nat.eq_of_beq_eq_true h2⟩
theorem Xc {ops:Array Oper} (h:Alt ops=true) {j:Nat} {o:Oper} (ho:ops[j]? =some o) {e:Edge} (he:e∈o.after) (hb:Region.binds .any e=true):e.on<j:=by
 unfold Alt at h
 have hj:j<ops.size:=(Array.getElem?_eq_some_iff.1 ho).1
 have h1:=List.all_eq_true.1 h j (List.mem_range.2 hj)
 rw [ho] at h1
 have h2:=List.all_eq_true.1 h1 e (by simpa using he)
 rw [hb] at h2
 exact Hk (by simpa using h2)
theorem Rw {P:Program} {ops:Array Oper} {Q:Exit→Act→World→Prop} {id:Nat} {a:Act} {w:World} {I:Array Bool→Act→World→Prop} (p:Nat) (suf:List Oper) (hm:P.follows .mixedOrders=true)
  (hops:∀j,suf[j]? =ops[p+j]?) (hsz:ops.size=p+suf.length) (hne:0<suf.length) (hS:Up ops p=true) (h0:I (Array.replicate ops.size false) a w.drew)
  (hinv:∀listed a w,I listed a w→listed.size=ops.size∧(∀j o e,ops[j]? =some o→listed.getD j false=true→e∈o.after→Region.binds .any e=true→listed.getD e.on false=true)∧∀k,p≤k→listed.getD k false=false)
  (hstep:∀listed a w,I listed a w→∀i∈Region.ready .any ops listed,i<p→wpOp P ops Q i (fun a' w'=>I (listed.setIfInBounds i true) a' w') a w)
  (hdone:∀listed a w,I listed a w→(∀k,k<p→listed.getD k false=true)→wpList P ops Q suf a w):(Code.region id ops true).wp P Q a w:=by
 unfold Up at hS
 rw [Bool.and_eq_true,Bool.and_eq_true] at hS
 obtain ⟨⟨hback,hpre⟩,hchain⟩:=hS
 have hch:∀j,p<j→j<ops.size→Xb ops j (j - 1)=true:=by
  intro j h1 h2
  have h3:=List.all_eq_true.1 hchain j (List.mem_range.2 h2)
  have h4:Nat.blt p j=true:=by rw [Nat.blt_eq];exact h1
  rw [h4] at h3
  simpa using h3
 have hall:∀listed a w,I listed a w→p∈Region.ready .any ops listed→∀k,k<p→listed.getD k false=true:=by
  intro listed a w hI hp k hk
  obtain ⟨_,hdown,_⟩:=hinv _ _ _ hI
  obtain ⟨_,_,o,ho,hdeps⟩:=Ht hp
  have key:∀d k,k<p→p - k≤d→listed.getD k false=true:=by
   intro d
   induction d with
   |zero=>intro k h1 h2;omega
   |succ d ih=>
    intro k h1 h2
    have h3:=List.all_eq_true.1 hpre k (List.mem_range.2 h1)
    simp only [List.any_eq_true,Bool.and_eq_true,List.mem_range] at h3
    obtain ⟨k',h4,h5,h6⟩:=h3
    have h5:=Hk h5
    obtain ⟨o',e,g1,g2,g3,g4⟩:=Rp h6
    by_cases e':k'=p
    ·subst e'
     rw [ho] at g1;cases g1
     rw [←g4];exact hdeps e g2 g3
    ·rw [←g4]
     exact hdown k' o' e g1 (ih k' (by omega) (by omega)) g2 g3
  exact key (p - k) k hk (Nat.le_refl _)
 let J:Array Bool→Act→World→Prop:=fun listed a w=>I listed a w∨∃m,m≤suf.length∧listed.size=ops.size∧(∀k,k<ops.size→(listed.getD k false=true↔k<p+m))∧wpList P ops Q (suf.drop m) a w
 have hone:∀(listed:Array Bool) (a:Act) (w:World) (m:Nat),m<suf.length→listed.size=ops.size→(∀k,k<ops.size→(listed.getD k false=true↔k<p+m))→wpList P ops Q (suf.drop m) a w→
   wpOp P ops Q (p+m) (fun a' w'=>J (listed.setIfInBounds (p+m) true) a' w') a w:=by
  intro listed a w m hm' hl hk hw
  have ho:suf[m]? =some suf[m]:=List.getElem?_eq_getElem hm'
  have hd:suf.drop m=suf[m]::suf.drop (m+1):=List.drop_eq_getElem_cons hm'
  rw [hd] at hw
  unfold wpOp
  rw [←hops m,ho]
  simp only
  unfold wpList at hw
  have hJ:∀a' w',wpList P ops Q (suf.drop (m+1)) a' w'→J (listed.setIfInBounds (p+m) true) a' w':=by
   intro a' w' h
   refine .inr ⟨m+1,hm',by simpa using hl,fun k hk'=> ?_,h⟩
   by_cases e:k=p+m
   ·subst e
    simp [Array.getD_eq_getD_getElem?,show p+m<listed.size by omega]
   ·rw [show (listed.setIfInBounds (p+m) true).getD k false=listed.getD k false from by simp [Array.getD_eq_getD_getElem?,Array.getElem?_setIfInBounds_ne (fun h=>e h.symm)]]
    rw [hk k hk']
    omega
  split at hw
  ·rename_i hwant
   rw [if_pos hwant]
   rcases hw with h|h
   ·exact .inl (Oper.wp_mono hJ h)
   ·exact .inr h
  ·rename_i hwant
   rw [if_neg hwant]
   exact hJ _ _ hw
 refine Rx (I:=J) hm (.inl h0) ?_ ?_
 ·rintro listed a w (hI|⟨m,hm',hl,hk,hw⟩) i hi
  ·obtain ⟨hl,hdown,hun⟩:=hinv _ _ _ hI
   obtain ⟨h1,h2,o,ho,hdeps⟩:=Ht hi
   by_cases hip:i<p
   ·exact wpOp_mono (fun _ _ h=> .inl h) (hstep _ _ _ hI i hi hip)
   ·by_cases e:i=p
    ·subst e
     have ha:=hall _ _ _ hI hi
     have := hone listed a w 0 hne hl (fun k hk => by
      by_cases hkp:k<i
      ·simp [ha k hkp,hkp]
      ·simp [hun k (by omega), hkp]) (by rw [List.drop_zero]; exact hdone _ _ _ hI ha)
     rwa [Nat.add_zero] at this
    ·exfalso
     obtain ⟨o',e',g1,g2,g3,g4⟩:=Rp (hch i (by omega) h1)
     rw [ho] at g1;cases g1
     have:=hdeps e' g2 g3
     rw [g4,hun (i - 1) (by omega)] at this
     cases this
  ·obtain ⟨h1,h2,o,ho,hdeps⟩:=Ht hi
   have h2':listed.getD i false=false:=by rw [←Kf true (by omega)];exact h2
   have hge:¬i<p+m:=fun h=>by have:=(hk i h1).2 h;rw [h2'] at this;cases this
   have hi':i=p+m:=by
    by_cases e:i=p+m
    ·exact e
    ·exfalso
     obtain ⟨o',e',g1,g2,g3,g4⟩:=Rp (hch i (by omega) h1)
     rw [ho] at g1;cases g1
     have:=hdeps e' g2 g3
     rw [g4] at this
     have:=(hk (i - 1) (by omega)).1 this
     omega
   subst hi'
   exact hone listed a w m (by omega) hl hk hw
 ·rintro listed a w (hI|⟨m,hm',hl,hk,hw⟩) hr
  ·exfalso
   obtain ⟨hl,hdown,hun⟩:=hinv _ _ _ hI
   have key:∀k,k≤p→listed.getD k false=true:=by
    intro k
    induction k using Nat.strongRecOn with
    |_ k ih=>
     intro hkp
     cases hlk:listed.getD k false with
     |true=>rfl
     |false=>
      exfalso
      have hks:k<ops.size:=by omega
      have ho:ops[k]? =some ops[k]:=Array.getElem?_eq_getElem hks
      have : k ∈ Region.ready .any ops listed := mem_ready.2 ⟨by rw [Kf true (by omega)]; exact hlk, ops[k], ho, fun e he hb => by
       have hlt:=Xc hback ho he hb
       exact ih e.on hlt (by omega)⟩
      rw [hr] at this;cases this
   have:=key p (Nat.le_refl _)
   rw [hun p (Nat.le_refl _)] at this
   cases this
  ·by_cases e:m=suf.length
   ·subst e
    rw [List.drop_length] at hw
    exact hw
   ·exfalso
    have hks:p+m<ops.size:=by omega
    have ho:ops[p+m]? =some ops[p+m]:=Array.getElem?_eq_getElem hks
    have hun:listed.getD (p+m) false=false:=by
     cases h:listed.getD (p+m) false with
     |false=>rfl
     |true=>have:=(hk _ hks).1 h;omega
    have : p + m ∈ Region.ready .any ops listed := mem_ready.2 ⟨by rw [Kf true (by omega)]; exact hun, ops[p + m], ho, fun e he hb => by
     have hlt:=Xc hback ho he hb
     exact (hk e.on (by omega)).2 hlt⟩
    rw [hr] at this;cases this
theorem Aos {P:Program} {n id:Nat} {pre suf:List Oper} {ops:Array Oper} {K:Ei} {f f':Fr} {h h':Xh} {L:List (List Nat × S)} (sites:List Nat) (hopsE:ops=(pre++suf).toArray) (hne:0<suf.length) (hm:P.follows .mixedOrders=true) (hin:pre.all (inN n)=true) (hin2:suf.all (inN n)=true)
  (hreg:M7 ops pre=true) (hS:Up ops pre.length=true)
  (hc:Ch P n ops pre (Fs f sites) (Gb h sites) L f' h') (hids:L.flatMap (·.1)=sites) (hnd:sites.Nodup) (hk:XL P n ops suf K f' h'):XW P n (.region id ops true) K f h:=by
 have hops:∀j,j<pre.length→ops[j]? =pre[j]? :=fun j hj=>by rw [hopsE];simp [List.getElem?_append_left hj]
 have hops2:∀j,suf[j]? =ops[pre.length+j]? :=fun j=>by rw [hopsE,List.getElem?_toArray,List.getElem?_append_right (by omega),Nat.add_sub_cancel_left]
 have hsize:ops.size=pre.length+suf.length:=by rw [hopsE];simp
 intro E H β a w hs hf
 obtain ⟨hs1,hf1⟩:=Oj sites β f h hs hf
 obtain ⟨hok,hfin⟩:=hc.ok
 obtain ⟨hle,hnew⟩:=hc.heap
 have hlen:=hc.len
 generalize hf0:Fs f sites=f0 at*
 have huniq:∀(k k':Nat) (ids ids':List Nat) (s s':S) (i:Nat),L[k]? =some (ids,s)→L[k']? =some (ids',s')→i∈ids→i∈ids'→k=k':=by
  rw [←hids] at hnd
  clear hids hnew hc hok hfin hlen
  induction L with
  |nil=>intro k k' ids ids' s s' i h1;simp at h1
  |cons q L ih=>
   rw [List.flatMap_cons,List.nodup_append] at hnd
   intro k k' ids ids' s s' i h1 h2 h3 h4
   cases k with
   |zero=>
    cases k' with
    |zero=>rfl
    |succ k'=>
     simp at h1 h2
     subst h1
     exact absurd rfl (hnd.2.2 i h3 i (List.mem_flatMap.2 ⟨_,List.mem_of_getElem? h2,h4⟩))
   |succ k=>
    cases k' with
    |zero=>
     simp at h1 h2
     subst h2
     exact absurd rfl (hnd.2.2 i h4 i (List.mem_flatMap.2 ⟨_,List.mem_of_getElem? h1,h3⟩))
    |succ k'=>exact congrArg (· +1) (ih hnd.2.1 k k' ids ids' s s' i (by simpa using h1) (by simpa using h2) h3 h4)
 have hs2:Sim E H (G6 β sites) h' w:=by
  have emp:∀i x L0,h' i=some x→G6 β sites i=some L0→Gb h sites i=some x:=fun i x L0 e1 e2=>by
   rcases hnew i x e1 with e|e
   ·exact e
   ·rw [hids] at e
    rw [Hr sites β i e.1] at e2;cases e2
  exact ⟨hs1.below, hs1.ext, hs1.new, hs1.imm, fun i x L0 e1 e2 => hs1.obj i x L0 (emp i x L0 e1 e2) e2, fun i x L0 e1 e2 => hs1.sep i x L0 (emp i x L0 e1 e2) e2,
   fun i j x x' L1 L2 b hij e1 e1' e2 e2'=>hs1.inj i j x x' L1 L2 b hij (emp i x L1 e1 e2) (emp j x' L2 e1' e2') e2 e2',
   fun i x e1 hg=>by
    rcases hnew i x e1 with e|e
    ·exact hs1.dom i x e hg
    ·rw [e.2] at hg; cases hg⟩
 refine Rw (I := fun listed a w => (listed.size = ops.size ∧ (∀ j o e, ops[j]? = some o → listed.getD j false = true → e ∈ o.after → Region.binds .any e = true → listed.getD e.on false = true) ∧ ∀ k, pre.length ≤ k → listed.getD k false = false) ∧
   ∃ H β, Sim E H β h' w ∧ FV n H β a (B7 f0 pre L (fun j => listed.getD j false) pre.length) ∧ ∀ (k : Nat) (ids : List Nat) (s : S), L[k]? = some (ids, s) → listed.getD k false = false → ∀ i ∈ ids, β i = none) pre.length suf hm hops2 hsize hne hS ?_ (fun _ _ _ h => h.1) ?_ ?_
 ·have hrep:∀j,(Array.replicate ops.size false).getD j false=false:=fun j=>by rw [Array.getD_eq_getD_getElem?,Array.getElem?_replicate];split<;>rfl
  refine ⟨⟨by simp,fun j o e _ hj=> ?_,fun k _=>hrep k⟩,H,G6 β sites,hs2.drew, ?_,fun k ids s hk _ i hi=>Hr sites β i (by rw [←hids];exact List.mem_flatMap.2 ⟨_,List.mem_of_getElem? hk,hi⟩)⟩
  ·have:(Array.replicate ops.size false).getD j false=false:=by
    rw [Array.getD_eq_getD_getElem?,Array.getElem?_replicate];split<;>rfl
   rw [this] at hj;cases hj
  ·have e0:∀k,B7 f0 pre L (fun j=>(Array.replicate ops.size false).getD j false) k=f0:=by
    intro k
    induction k with
    |zero=>rfl
    |succ k ih=>
     have hz:(Array.replicate ops.size false).getD k false=false:=by
      rw [Array.getD_eq_getD_getElem?,Array.getElem?_replicate];split<;>rfl
     unfold B7
     cases pre[k]? with
     |none=>exact ih
     |some o=>
      cases L[k]? with
      |none=>exact ih
      |some q=>simp only [hz,cond_false];exact ih
   rw [e0]
   exact hf1
 ·rintro listed a w ⟨⟨hsz,hdown,hunp⟩,H,β,hsim,hfv,hun⟩ i hi hip
  obtain ⟨hil,hunl,o,ho,hdeps⟩:=Ht hi
  have hil':i<pre.length:=hip
  have hol:pre[i]? =some o:=by rw [←hops i hip];exact ho
  obtain ⟨⟨ids,s⟩,hLi⟩:∃q,L[i]? =some q:=⟨_,List.getElem?_eq_getElem (by omega)⟩
  have hunl':listed.getD i false=false:=by rw [←Kf true (by omega)];exact hunl
  have hdown':∀j o e,ops[j]? =some o→(fun j=>listed.getD j false) j=true→e∈o.after→Region.binds .any e=true→(fun j=>listed.getD j false) e.on=true:=fun j o e h1 h2 h3 h4=>hdown j o e (by simpa using h1) h2 h3 h4
  have hwl:∀j,I7 ops 3 i j=true→listed.getD j false=true:=by
   intro j hw
   unfold I7 at hw
   rw [ho] at hw
   simp only [List.any_eq_true,Bool.and_eq_true,Bool.or_eq_true] at hw
   obtain ⟨e,he,hb,h2⟩:=hw
   have hl:=hdeps e (by simpa using he) hb
   rcases h2 with h2|h2
   ·rw [←Nat.eq_of_beq_eq_true h2];exact hl
   ·exact F1 hdown' 2 e.on j h2 hl
  have hlo:∀t,t∈Df ops o→∀j o',j<i→pre[j]? =some o'→o'.dst=some t→listed.getD j false=true:=by
   intro t ht j o' hj hj' hd
   exact hwl j (Ld hreg hj hj' hol (by unfold Pp;rw [hd];simp [K7 ht]))
  have hhi:∀t,t∈Df ops o→∀j o',i<j→pre[j]? =some o'→o'.dst=some t→listed.getD j false=false:=by
   intro t ht j o' hj hj' hd
   cases hlj:listed.getD j false with
   |false=>rfl
   |true=>
    have hw:=Ld hreg hj hol hj' (by unfold Pp;rw [hd];simp [K7 ht])
    have:=F1 hdown' 3 j i hw hlj
    rw [hunl'] at this;cases this
  have hcur:∀t,t∈Df ops o→B7 f0 pre L (fun j=>listed.getD j false) pre.length t=B7 f0 pre L Gd i t:=by
   intro t ht
   have h1:∀j o',i≤j→pre[j]? =some o'→o'.dst=some t→(fun j=>listed.getD j false) j=false:=by
    intro j o' hj hj' hd
    by_cases e:j=i
    ·subst e;exact hunl'
    ·exact hhi t ht j o' (by omega) hj' hd
   rw [Kh h1 pre.length (by omega),Po (hlo t ht) i (Nat.le_refl _)]
  have hin':inN n o=true:=List.all_eq_true.1 hin o (List.mem_of_getElem? hol)
  have hoin:=hin'
  unfold inN at hoin
  rw [Bool.and_eq_true] at hoin
  have hop:∀x∈o.op.operands,VS H β (a.eval x) (ev (B7 f0 pre L Gd i) x):=by
   intro x hx
   have h1:=hfv.operands hin' x hx
   cases x with
   |tmp t=>
    have ht:t∈Df ops o:=by
     unfold Df Oper.looksAt
     simp only [List.mem_append,List.mem_filterMap]
     exact .inr (.inl ⟨.tmp t,by simpa using hx,rfl⟩)
    have:=hcur t ht
    simp only [ev] at h1 ⊢
    rw [←this]
    exact h1
   |_=>exact h1
  have hguard:∀b,Cv ops (B7 f0 pre L Gd i) n o.guard=some b→Region.wanted o (yielded ops a.tmps)=b:=by
   intro b hb
   refine Kl hfv ?_
   rw [←hb]
   unfold Cv
   cases hg:o.guard with
   |none=>rfl
   |some g=>
    obtain ⟨j,want⟩:=g
    simp only
    cases ht:(ops[j]?).bind (·.dst) with
    |none=>rfl
    |some t=>
     simp only
     have htn:t∈Df ops o:=by
      unfold Df Oper.looksAt
      rw [hg]
      simp only [List.mem_append]
      exact .inr (.inr (by rw [ht];simp))
     rw [hcur t htn]
  have hlisted':∀j,(listed.setIfInBounds i true).getD j false=if j=i then true else listed.getD j false:=by
   intro j
   by_cases e:j=i
   ·subst e
    simp [Array.getD_eq_getD_getElem?,show j<listed.size by omega]
   ·rw [if_neg e]
    simp [Array.getD_eq_getD_getElem?,Array.getElem?_setIfInBounds_ne (fun h=>e h.symm)]
  have hdown2:∀j o' e,ops[j]? =some o'→(listed.setIfInBounds i true).getD j false=true→e∈o'.after→Region.binds .any e=true→(listed.setIfInBounds i true).getD e.on false=true:=by
   intro j o' e hj hl he hb
   rw [hlisted'] at hl ⊢
   split
   ·rfl
   ·by_cases ej:j=i
    ·subst ej
     rw [ho] at hj;cases hj
     exact hdeps e he hb
    ·rw [if_neg ej] at hl
     exact hdown j o' e hj hl he hb
  have hslot:∀(H':Hp) (β':Bt) (u:Value),FV n H' β' a (B7 f0 pre L (fun j=>listed.getD j false) pre.length)→VS H' β' u s→FV n H' β' (a.put o.dst u) (B7 f0 pre L (fun j=>(listed.setIfInBounds i true).getD j false) pre.length):=by
   intro H' β' u hfv' hu
   have hp:=hfv'.put hu o.dst hoin.2
   refine ⟨hp.defers,hp.size,fun t ht=> ?_⟩
   have h1:=hp.slot t ht
   have hsame:∀j,j≠i→(fun j=>(listed.setIfInBounds i true).getD j false) j=(fun j=>listed.getD j false) j:=fun j hj=>by simp only;rw [hlisted',if_neg hj]
   by_cases hd:o.dst=some t
   ·have ht':t∈Df ops o:=by unfold Df;simp [hd]
    have e1:B7 f0 pre L (fun j=>(listed.setIfInBounds i true).getD j false) pre.length t=B7 f0 pre L (fun j=>(listed.setIfInBounds i true).getD j false) (i+1) t:=by
     refine Kh (fun j o' hj hj' hd'=> ?_) pre.length (by omega)
     show (listed.setIfInBounds i true).getD j false=false
     rw [hlisted',if_neg (by omega)]
     exact hhi t ht' j o' (by omega) hj' hd'
    have e2:B7 f0 pre L (fun j=>(listed.setIfInBounds i true).getD j false) (i+1) t=s:=by
     unfold B7
     rw [hol,hLi]
     have hb:(listed.setIfInBounds i true).getD i false=true:=by rw [hlisted',if_pos rfl]
     simp only [hb,cond_true,Ca,hd,D4,Cc]
    have e3:Ca (B7 f0 pre L (fun j=>listed.getD j false) pre.length) o.dst s t=s:=by rw [hd];simp only [Ca,D4,Cc,cond_true]
    rw [e1,e2]
    rw [e3] at h1
    exact h1
   ·have e1:=Np (f:=f0) (L:=L) (lst:=fun j=>listed.getD j false) (t:=t) hsame (fun o' h=>by rw [hol] at h;cases h;exact hd) pre.length
    have e3:Ca (B7 f0 pre L (fun j=>listed.getD j false) pre.length) o.dst s t=B7 f0 pre L (fun j=>listed.getD j false) pre.length t:=by
     cases hdd:o.dst with
     |none=>rfl
     |some t'=>
      have:t'≠t:=fun e=>hd (by rw [hdd,e])
      simp only [Ca,D4,Cp this,cond_false]
    rw [e1]
    rw [e3] at h1
    exact h1
  have hun2:∀(β':Bt),(∀j,j∉ids→β' j=β j)→∀(k:Nat) (ids':List Nat) (s':S),L[k]? =some (ids',s')→(listed.setIfInBounds i true).getD k false=false→∀j∈ids',β' j=none:=by
   intro β' hβ' k ids' s' hk hl j hj
   rw [hlisted'] at hl
   by_cases e:k=i
   ·rw [if_pos e] at hl;cases hl
   ·rw [if_neg e] at hl
    rw [hβ' j (fun hc=>e (huniq k i ids' ids s' s j hk hLi hj hc))]
    exact hun k ids' s' hk hl j hj
  have hsz':(listed.setIfInBounds i true).size=ops.size:=by simpa using hsz
  have hunp2:∀k,pre.length≤k→(listed.setIfInBounds i true).getD k false=false:=fun k hk=>by rw [hlisted',if_neg (by omega)];exact hunp k hk
  unfold wpOp
  rw [ho]
  simp only
  rcases hok i o ids s hol hLi with ⟨hw,hcalm⟩|⟨hw,rfl,rfl⟩
  ·rw [if_pos (hguard _ hw)]
   refine .inl (Is (hcalm E H β a w hsim (hun i ids s hLi hunl') hop) ?_)
   rintro a' w' ⟨H',β',u,rfl,k1,k2,k3,k4,k5⟩
   exact ⟨⟨hsz',hdown2,hunp2⟩,H',β',k1,hslot H' β' u (hfv.mono k2 k3) k5,hun2 β' k4⟩
  ·rw [if_neg (by rw [hguard _ hw];simp)]
   exact ⟨⟨hsz',hdown2,hunp2⟩,H,β,hsim,hslot H β undef hfv (.d (.v _)),hun2 β fun _ _=>rfl⟩
 ·rintro listed a w ⟨⟨hsz,hdown,hunp⟩,H,β,hsim,hfv,hun⟩ hall
  refine hk hin2 E H β a w hsim ?_
  have e:∀k,k≤pre.length→B7 f0 pre L (fun j=>listed.getD j false) k=B7 f0 pre L Gd k:=by
   intro k
   induction k with
   |zero=>intro _;rfl
   |succ k ih=>
    intro hk'
    unfold B7
    rw [ih (by omega)]
    cases pre[k]? with
    |none=>rfl
    |some o=>
     cases L[k]? with
     |none=>rfl
     |some q=>simp only [hall k (by omega),Gd]
  rw [e pre.length (Nat.le_refl _),hfin] at hfv
  exact hfv
theorem Ar3 {P:Program} {n id:Nat} {pre suf:List Oper} {ops:Array Oper} {K:Ei} {f:Fr} {h:Xh} (sites:List Nat) (hopsE:ops=(pre++suf).toArray) (hne:0<suf.length) (hm:P.follows .mixedOrders=true) (hin:pre.all (inN n)=true) (hin2:suf.all (inN n)=true)
  (hreg:M7 ops pre=true) (hS:Up ops pre.length=true) (hnd:sites.Nodup)
  (hc:ChK P n ops pre (Fs f sites) (Gb h sites) [] (fun L f' h'=>L.flatMap (·.1)=sites∧XL P n ops suf K f' h')):XW P n (.region id ops true) K f h:=by
 obtain ⟨L,f',h',k1,k2,k3⟩:=hc
 exact Aos sites hopsE hne hm hin hin2 hreg hS k1 k2 hnd k3
theorem Ce {P:Program} {n id:Nat} {l:List Oper} {K:Ei} {f:Fr} {h:Xh} (p:Nat) (sites:List Nat) (hm:P.follows .mixedOrders=true) (hin:l.all (inN n)=true) (hreg:M7 l.toArray (l.take p)=true) (hS:(Nat.blt p l.length && Up l.toArray p)=true) (hnd:sites.Nodup)
  (hc:ChK P n l.toArray (l.take p) (Fs f sites) (Gb h sites) [] (fun L f' h'=>L.flatMap (·.1)=sites∧XL P n l.toArray (l.drop p) K f' h')):XW P n (.region id l.toArray true) K f h:=by
 rw [Bool.and_eq_true] at hS
 have hp:=Hk hS.1
 rw [←List.take_append_drop p l,List.all_append,Bool.and_eq_true] at hin
 exact Ar3 sites (by rw [List.take_append_drop]) (by rw [List.length_drop];omega) hm hin.1 hin.2 hreg (by rw [List.length_take,Nat.min_eq_left (by omega)];exact hS.2) hnd hc
theorem L8 {e:TypeId} {sz k:Nat} {α:Type} {g:α→List D} {l l':List α} {a:α} {ds:List D} (hd:ds=g a) (hl:l'=l.set k a):some (XO.row e sz ((l.map g).set k ds))=some (XO.row e sz (l'.map g)):=by rw [hl,hd,List.map_set]
end Go.Proofs.YtcihalbakenleaaGreat
namespace Go.Proofs.YtcihalbakenleaaGreat
open Go.RowKit
def tot (l:List Int):Int:=l.foldl (· + ·) 0
theorem Hb (l:List Int) (x:Int):tot (l++ [x])=tot l+x:=by unfold tot;rw [List.foldl_append];rfl
theorem Qo {l:List Int} {k:Nat} {x:Int} (h:l[k]? =some x):tot (l.take (k+1))=tot (l.take k)+x:=by rw [Bp h,Hb]
structure Nums (l:List Int):Prop where
 len:l.length≤128
 bd:∀x∈l,0≤x∧x≤253671505920
theorem Asc {l:List Int}:(∀x∈l,0≤x∧x≤253671505920)→0≤tot l∧tot l≤(l.length:Int)*253671505920:=by
 refine L6 (p:=fun l=>(∀x∈l,0≤x∧x≤253671505920)→0≤tot l∧tot l≤(l.length:Int)*253671505920) (fun _=>by simp [tot]) (fun l x ih h=> ?_) l
 have h1:=ih fun y hy=>h y (List.mem_append_left _ hy)
 have h2:=h x (List.mem_append_right _ (List.mem_singleton.2 rfl))
 rw [Hb,List.length_append,List.length_singleton,Int.natCast_add,Int.add_mul]
 omega
theorem Nums.tot {l:List Int} (h:Nums l):0≤Go.Proofs.YtcihalbakenleaaGreat.tot l∧Go.Proofs.YtcihalbakenleaaGreat.tot l≤32469952757760:=by
 have:=Asc h.bd
 have:=h.len
 omega
theorem Nums.take {l:List Int} (h:Nums l) (k:Nat):Nums (l.take k):=⟨Nat.le_trans (List.length_take_le' _ _) h.len,fun x hx=>h.bd x (List.mem_of_mem_take hx)⟩
def Evs (l:List Ev):Prop:=∀e∈l,e.art≤9223372036854775807
def wrS (l:List Ev):List Int:=l.map Ev.len
theorem Un (l:List Int) (h:Nums l):XC Tryz.prog 61 [.sl 1 (B8 l)] (fun r=>r=dI (tot l)):=by
 refine Ao Ag3 Tryz.func61 R R lb<|zr<|za R R<|znr<|za R R<|zn<|zs<|zr<|zm R R<|XL.len R R R Tryz.underlying64 fun hl7=>zm R R<|zn<|Ah<|?_
 refine Ay (α:=Nat) (fun k=>k≤l.length) (fun k=>mkF [(2, .d (dI 0)),(3, .d (dI (tot (l.take k)))),(6, .d (.sl 1 (B8 l))),(7, .d (dI l.length)),(8, .d (dI k))]) (fun k=>mkH []) (fun k=>l.length - k) (0) (Nat.zero_le _) ?_ ?_ ?_
 exact fz ⟨sr,sr,sr,sr,sr,trivial⟩
 exact HSub.nil
 intro k hk0
 refine zr<|zp (As R R R)<|zn<|zs<|?_
 refine zd R (fun c9=> ?_) (fun c9=> ?_)
 have hk0a:k<l.length:=by omega
 obtain ⟨x0,hx0⟩:=Au hk0a
 have h1:=(h.take k).tot
 have h2:=h.bd x0 (List.mem_of_getElem? hx0)
 refine zi<|zs<|Ah<|zr<|zp (Am R R R C5 hx0)<|zp (Az R R Ai)<|za R R<|zng<|zm R R<|zm R R<|zp (Aj R R R (by omega) (by omega))<|za R R<|zn<|Af (by kernel_rfl)<|?_
 refine zp (Aj R R R (by omega) (by omega))<|zm R R<|zn<|?_
 exact Ak (k+1) (by omega) (by omega) (fz ⟨sr, .same (sI (by rw [Qo hx0])),sr,sr,sr,trivial⟩) (HSub.nil)
 have hk0b:k=l.length:=by omega
 have ht:l.take k=l:=by rw [hk0b,List.take_length]
 exact Ap<|zr<|zm R R<|za R R<|zn<|zt<|z1 R R (rI (by rw [ht]))
def Lu (l:List Int) (k:Nat):List Int:=(List.range l.length).map fun j=>if j<k then tot (l.take j) else 0
def Bl (l:List Int):List Int:=(List.range l.length).map fun j=>tot (l.take j)
theorem Abz (l:List Int) (k:Nat):(Lu l k).length=l.length:=by rw [Lu,List.length_map,List.length_range]
theorem Ap4 (l:List Int):List.replicate l.length (0:Int)=Lu l 1:=by
 rw [Lu]
 refine List.ext_getElem? fun j=> ?_
 rw [List.getElem?_replicate,List.getElem?_map]
 by_cases h:j<l.length
 ·rw [if_pos h,List.getElem?_range h,Option.map_some]
  congr 1
  split
  ·have:j=0:=by omega
   subst this;rfl
  ·rfl
 ·rw [if_neg h,List.getElem?_eq_none (by rw [List.length_range];omega)];rfl
theorem Ab0 {l:List Int} {j k:Nat} (h:j<k) (hj:j<l.length):(Lu l k)[j]? =some (tot (l.take j)):=by
 rw [Lu,List.getElem?_map,List.getElem?_range hj,Option.map_some,if_pos h]
theorem Ap3 {l:List Int} {k:Nat} (hk:k<l.length):(Lu l k).set k (tot (l.take k))=Lu l (k+1):=by
 refine List.ext_getElem? fun j=> ?_
 rw [List.getElem?_set]
 split
 ·rename_i h
  subst h
  rw [if_pos (by rw [Abz];exact hk),Ab0 (by omega) hk]
 ·rename_i h
  rw [Lu,Lu,List.getElem?_map,List.getElem?_map]
  by_cases hj:j<l.length
  ·rw [List.getElem?_range hj,Option.map_some,Option.map_some]
   congr 1
   by_cases e:j<k
   ·rw [if_pos e,if_pos (by omega)]
   ·rw [if_neg e,if_neg (by omega)]
  ·rw [List.getElem?_eq_none (by rw [List.length_range];omega)];rfl
theorem Ap5 {l:List Int} {k:Nat} (hk:l.length≤k):Lu l k=Bl l:=by
 rw [Lu,Bl]
 refine List.map_congr_left fun j hj=> ?_
 rw [if_pos (by have:=List.mem_range.1 hj;omega)]
theorem Y5 (l:List Int) (h:Nums l):XC Tryz.prog 69 [.sl 1 (B8 l)] (fun r=>r= .sl 1 (B8 (Bl l))):=by
 have hll:=h.len
 refine Ao Agy Tryz.func69 R R lb<|zr<|za R R<|znr<|zm R R<|XL.len R R R Tryz.underlying64 fun hl6=>XL.step R (P9 7 (z:=(.int .i64 0)) (zs:= [dI 0]) (sz:=1) (bytes:=8) R R R Tryz.underlying64 (by kernel_rfl) (by kernel_rfl) (by kernel_rfl) (by decide) (by decide) (by omega) (by unfold maxLen;omega) (by omega))<|zp (Ar R (by conv=>lhs;whnf))<|?_
 refine zn<|zs<|zr<|za R R<|zn<|Ah<|?_
 refine Ay (α:=Nat) (fun k=>1≤k∧k≤l.length+1) (fun k=>mkF [(0, .d (.sl 1 (B8 l))),(2, .d (.v (.slice none 0 0))),(3, .own 7),(4, .d (dI k))]) (fun k=>mkH [(7, .row 3 1 ((Lu l k).map iv))]) (fun k=>l.length+1 - k) (1) (⟨Nat.le_refl _,by omega⟩) ?_ ?_ ?_
 exact fz ⟨sr,sr,sr,sr,trivial⟩
 exact gz ⟨by rw [←Ap4,List.map_replicate];rfl,trivial⟩
 intro k hk0
 refine zs<|zr<|zm R R<|zm R R<|XL.len R R R Tryz.underlying64 fun hl10=>zp (As R R R)<|zn<|?_
 refine zd R (fun c11=> ?_) (fun c11=> ?_)
 have hkl:k<l.length:=by omega
 have h1:=(h.take (k - 1)).tot
 obtain ⟨x,hx⟩:∃x,l[k - 1]? =some x:=Au (by omega)
 have h2:=h.bd x (List.mem_of_getElem? hx)
 have ho:=Ab0 (l:=l) (k:=k) (j:=k - 1) (by omega) (by omega)
 have hol:=Abz l k
 obtain ⟨z,hz⟩:∃z,(Lu l k)[k]? =some z:=Au (by omega)
 have htk:tot (l.take k)=tot (l.take (k - 1))+x:=by have:=Qo hx;rwa [Nat.sub_add_cancel (by omega)] at this
 refine zi<|zs<|Ah<|Ce 13 [] (by kernel_rfl) (by kernel_rfl) (by kernel_rfl) (by kernel_rfl) (by decide)<|yp (Aw R (by conv=>lhs;whnf))<|?_
 refine ym R R<|yp (Aw R (by conv=>lhs;whnf))<|?_
 refine ym R R<|yp (C9 R R R (by omega) (by omega))<|yp (Cu R R R ((by omega:(k:Int) - 1=((k - 1:Nat):Int))) R C5 (by omega))<|yp (F8 R R Ai R (Cf (ho)) R)<|ym R R<|ym R R<|yp (C9 R R R (by omega) (by omega))<|yp (F9 R R R ((by omega:(k:Int) - 1=((k - 1:Nat):Int))) C5 (hx))<|yp (Az R R Ai)<|yp (Aj R R R (by omega) (by omega))<|?_
 refine ChK.nil ⟨by kernel_rfl, ?_⟩
 refine zp (Ls R R R R C5 (by omega))<|XL.step R (Dk R R R (Cf hz) R R Cs R lb)<|zn<|Af (by kernel_rfl)<|zm R R<|zp (Aj R R R (by omega) (by omega))<|za R R<|zn<|?_
 exact Ak (k+1) (by omega) (by omega) (fz ⟨sr,sr,sr,sr,trivial⟩) (gz ⟨L8 (a:=tot (l.take k)) (by rw [htk];rfl) (Ap3 hkl).symm,trivial⟩)
 have he:=Ap5 (l:=l) (k:=k) (by omega)
 refine Ap<|zr<|zp (Aw R (by conv=>lhs;whnf))<|?_
 refine zp (Ar R (by conv=>lhs;whnf))<|?_
 exact zn<|zt<|Bg (i:=7) R<|z1 R R (rSl he)
end Go.Proofs.YtcihalbakenleaaGreat
namespace Go.Proofs.YtcihalbakenleaaGreat
open Go.RowKit
def Kp (f:Nat→Int) (n k:Nat):List Int:=(List.range n).map fun j=>if j<k then f j else 0
theorem Zt (f:Nat→Int) (n k:Nat):(Kp f n k).length=n:=by rw [Kp,List.length_map,List.length_range]
theorem Alf (f:Nat→Int) (n:Nat):List.replicate n (0:Int)=Kp f n 0:=by
 rw [Kp]
 refine List.ext_getElem? fun j=> ?_
 rw [List.getElem?_replicate,List.getElem?_map]
 by_cases h:j<n
 ·rw [if_pos h,List.getElem?_range h,Option.map_some,if_neg (by omega)]
 ·rw [if_neg h,List.getElem?_eq_none (by rw [List.length_range];omega)];rfl
theorem Aoa {f:Nat→Int} {n k:Nat} (hk:k<n):Kp f n (k+1)=(Kp f n k).set k (f k):=by
 refine List.ext_getElem? fun j=> ?_
 rw [List.getElem?_set]
 split
 ·rename_i h
  subst h
  rw [if_pos (by rw [Zt];exact hk),Kp,List.getElem?_map,List.getElem?_range hk,Option.map_some,if_pos (by omega)]
 ·rename_i h
  rw [Kp,Kp,List.getElem?_map,List.getElem?_map]
  by_cases hj:j<n
  ·rw [List.getElem?_range hj,Option.map_some,Option.map_some]
   congr 1
   by_cases e:j<k
   ·rw [if_pos e,if_pos (by omega)]
   ·rw [if_neg e,if_neg (by omega)]
  ·rw [List.getElem?_eq_none (by rw [List.length_range];omega)];rfl
theorem Aob {f:Nat→Int} {n k:Nat} (hk:n≤k):Kp f n k=(List.range n).map f:=by
 rw [Kp]
 refine List.map_congr_left fun j hj=> ?_
 rw [if_pos (by have:=List.mem_range.1 hj;omega)]
def Nm (l:List Ev) (j:Nat):Int:=((l[j]?).map Ev.len).getD 0
theorem Aqd {l:List Ev} {k:Nat} {e:Ev} (h:l[k]? =some e):Nm l k=e.len:=by rw [Nm,h];rfl
theorem Anp (l:List Ev):(List.range l.length).map (Nm l)=wrS l:=by
 refine List.ext_getElem? fun j=> ?_
 rw [List.getElem?_map,wrS,List.getElem?_map]
 by_cases hj:j<l.length
 ·rw [List.getElem?_range hj,Option.map_some,Nm,List.getElem?_eq_getElem hj];rfl
 ·rw [List.getElem?_eq_none (by rw [List.length_range];omega),List.getElem?_eq_none (by omega)];rfl
theorem Afr (l:List Ev) (hE:Evs l) (hlen:l.length≤128):XC Tryz.prog 132 [.sl 13 (l.map Ev.c)] (fun r=>r= .sl 1 (B8 (wrS l))):=by
 refine Ao Aen Tryz.func132 R R lb<|zr<|za R R<|znr<|zm R R<|XL.len R R R Tryz.underlying22 fun hl7=>XL.step R (P9 8 (z:=(.int .i64 0)) (zs:= [dI 0]) (sz:=1) (bytes:=8) R R R Tryz.underlying64 (by kernel_rfl) (by kernel_rfl) (by kernel_rfl) (by decide) (by decide) (by omega) (by unfold maxLen;omega) (by omega))<|zp (Ar R (by conv=>lhs;whnf))<|?_
 refine zn<|zs<|zr<|zm R R<|XL.len R R R Tryz.underlying22 fun hl10=>zm R R<|zn<|Ah<|?_
 refine Ay (α:=Nat) (fun k=>k≤l.length) (fun k=>mkF [(2, .d (.v (.slice none 0 0))),(3, .own 8),(9, .d (.sl 13 (l.map Ev.c))),(10, .d (dI l.length)),(11, .d (dI k))]) (fun k=>mkH [(8, .row 3 1 ((Kp (Nm l) l.length k).map iv))]) (fun k=>l.length - k) (0) (Nat.zero_le _) ?_ ?_ ?_
 exact fz ⟨sr,sr,sr,sr,sr,trivial⟩
 exact gz ⟨by rw [←Alf,List.map_replicate];rfl,trivial⟩
 intro k hk0
 refine zr<|zp (As R R R)<|zn<|zs<|?_
 refine zd R (fun c12=> ?_) (fun c12=> ?_)
 have hk0a:k<l.length:=by omega
 obtain ⟨x0,hx0⟩:=Au hk0a
 have he:=hE x0 (List.mem_of_getElem? hx0)
 have hfl:=Zt (Nm l) l.length k
 obtain ⟨z,hz⟩:∃z,(Kp (Nm l) l.length k)[k]? =some z:=Au (by omega)
 refine zi<|zs<|Ah<|zr<|zm R R<|zp (Am R R R B5 hx0)<|zp (Ae (s':= .d (.agg (Ev.c x0))) (Av R R A3 lb) (by kernel_rfl))<|XL.step R (A0 5 (l:= [.d (dI 0), .d (dI 0), .d (dI 0), .d (dI 0), .d (dI 0), .d (.v (.slice none 0 0)), .d (.v (.slice none 0 0)), .d (dI 0), .d (dI 0), .d (dI 0), .d (.v (.slice none 0 0)), .d (dI 0), .d (dI 0)]) R Bw (by kernel_rfl))<|?_
 refine za R R<|XL.step R (Ag (l':= [.d (dI x0.site), .d (dI x0.num), .d (dI x0.kind), .d (dI x0.v.log), .d (dI x0.v.dots), .d (.sl 5 (x0.heads.map Hd.c)), .d (.sl 5 (x0.graces.map Gr.c)), .d (dI x0.art), .d (dI x0.orn), .d (dI x0.dyn), .d (.sl 2 (x0.lyr.map Sy.c)), .d (dI x0.stem), .d (dI x0.beam)]) R R R R B4 R lb (by kernel_rfl))<|zng<|zp (Aw R (by conv=>lhs;whnf))<|?_
 refine zm R R<|zp (Ae (s':= .d (.agg (Ev.c x0))) (Ac (Ad R R A3 R lb)) (by kernel_rfl))<|XL.call1 R R (Ajs _ (by assumption)) R<|zm R R<|zp (A6 R R R)<|zp (A6 R R R)<|zp (Ls R R R R C5 (by omega))<|XL.step R (Dk R R R (Cf hz) R R Cs R lb)<|zn<|Af (by kernel_rfl)<|zp (Aj R R R (by omega) (by omega))<|zm R R<|zn<|?_
 exact Ak (k+1) (by omega) (by omega) (fz ⟨sr,sr,sr,sr,sr,trivial⟩) (gz ⟨L8 (a:=Nm l k) (by rw [Aqd hx0];rfl) (Aoa hk0a),trivial⟩)
 have hk0b:k=l.length:=by omega
 have he:=Aob (f:=Nm l) (n:=l.length) (k:=k) (by omega)
 refine Ap<|zr<|zp (Aw R (by conv=>lhs;whnf))<|?_
 refine zp (Ar R (by conv=>lhs;whnf))<|?_
 exact zn<|zt<|Bg (i:=8) R<|z1 R R (rSl (by rw [he,Anp]))
def Vo.whole (v:Vo):Prop:=match v.evs with| []=>False|e::_=>e.kind=3
instance (v:Vo):Decidable v.whole:=by unfold Vo.whole;cases v.evs<;>exact inferInstance
theorem Ha {v:Vo} {e:Ev} (h:v.evs[0]? =some e):v.whole↔e.kind=3:=by
 unfold Vo.whole
 cases hv:v.evs with
 |nil=>rw [hv] at h;cases h
 |cons x l=>rw [hv] at h;cases h;exact Iff.rfl
theorem Aov {v:Vo} (h:¬0<(v.evs.length:Int)):¬v.whole:=by
 unfold Vo.whole
 cases hv:v.evs with
 |nil=>exact fun h=>h
 |cons x l=>rw [hv] at h;simp at h
def Vo.absent (v:Vo):Prop:=v.evs.length=0∧v.tups.length=0
instance (v:Vo):Decidable v.absent:=by unfold Vo.absent;exact inferInstance
theorem Aaq (v:Vo):XC Tryz.prog 87 [.agg (Vo.c v)] (fun r=>r=dB (decide v.whole)):=by
 refine Ao Agg Tryz.func87 R R lb<|zr<|XL.step R (At 1 (l:= [.d (.sl 13 (v.evs.map Ev.c)), .d (.sl 4 (v.tups.map Tp.c))]) R R (by kernel_rfl))<|za R R<|znr<|zp (Aa R R Ax)<|zp (Ab R R Bk R R)<|XL.len R R R Tryz.underlying22 fun hl5=>zp (Bb R R R)<|zm R R<|?_
 refine XL.dec 7 R (fun g7=> ?_) (fun g7=> ?_)
 obtain ⟨e,he⟩:∃e,v.evs[0]? =some e:=Au (by omega)
 exact zp (Aa R R Ax)<|zp (Ab R R Bk R R)<|zp (Am (k:=0) R R R B5 (he))<|zp (Bq R R B2)<|zp (Az R R Ai)<|zp (A5 R R R)<|zq R R R<|za R R<|zn<|zt<|z1 R R (rB (by rw [decide_eq_decide];exact (Ha he).symm))
 exact zk 6 R<|zq R R R<|za R R<|zn<|zt<|z1 R R (rB (by rw [eq_comm,decide_eq_false_iff_not];exact Aov g7))
theorem Vq (v:Vo):XC Tryz.prog 47 [.agg (Vo.c v)] (fun r=>r=dB (decide v.absent)):=by
 refine Ao Ahg Tryz.func47 R R lb<|zr<|XL.step R (At 1 (l:= [.d (.sl 13 (v.evs.map Ev.c)), .d (.sl 4 (v.tups.map Tp.c))]) R R (by kernel_rfl))<|za R R<|znr<|zp (Aa R R Ax)<|zp (Ab R R Bk R R)<|XL.len R R R Tryz.underlying22 fun hl5=>zp (A5 R R R)<|zm R R<|?_
 refine XL.dec 7 R (fun g7=> ?_) (fun g7=> ?_)
 exact zp (Aa R R Bn)<|zp (Ab R R B1 R R)<|XL.len R R R Tryz.underlying23 fun hl10=>zp (A5 R R R)<|zq R R R<|za R R<|zn<|zt<|z1 R R (rB (by rw [decide_eq_decide];unfold Vo.absent;omega))
 exact zk 4 R<|zq R R R<|za R R<|zn<|zt<|z1 R R (rB (by rw [eq_comm,decide_eq_false_iff_not];unfold Vo.absent;omega))
def Da (n:Nat):Nat→List Ev→Int
 |_, []=>0
 |k,e::r=>if e.err≠0 then e.err else if e.kind=3∧(0<k∨1<n) then 11 else Da n (k+1) r
def Dq (v:Vo):Int:=
 if Da v.evs.length 0 v.evs≠0 then Da v.evs.length 0 v.evs else if C1 v.tups (wrS v.evs)≠0 then C1 v.tups (wrS v.evs) else if F3 v.tups (wrS v.evs)≠0 then 21 else 0
def D7 (v:Vo):List Int:=if Dq v=0 then Id v.tups (wrS v.evs) else []
theorem Ri {n k:Nat} {l:List Ev} {e:Ev} (h:l[k]? =some e) (he:e.err≠0):Da n k (l.drop k)=e.err:=by rw [C2 h,Da,if_pos he]
theorem Lf {n k:Nat} {l:List Ev} {e:Ev} (h:l[k]? =some e) (he:¬e.err≠0) (hk:e.kind=3∧(0<k∨1<n)):Da n k (l.drop k)=11:=by rw [C2 h,Da,if_neg he,if_pos hk]
theorem M1 {n k:Nat} {l:List Ev} {e:Ev} (h:l[k]? =some e) (he:¬e.err≠0) (hk:¬(e.kind=3∧(0<k∨1<n))):Da n k (l.drop k)=Da n (k+1) (l.drop (k+1)):=by rw [C2 h,Da,if_neg he,if_neg hk]
theorem Pe {v:Vo} {e:Int} (he:e=Da v.evs.length 0 v.evs) (hn:e≠0): []=D7 v∧e=Dq v:=by
 have e2:Dq v=e:=by rw [Dq, ←he,if_pos hn]
 exact ⟨by rw [D7,e2,if_neg hn],e2.symm⟩
theorem Ak4 {v:Vo} (h:Da v.evs.length 0 v.evs=0) (hn:C1 v.tups (wrS v.evs)≠0): []=D7 v∧C1 v.tups (wrS v.evs)=Dq v:=by
 have e2:Dq v=C1 v.tups (wrS v.evs):=by rw [Dq,if_neg (by omega),if_pos hn]
 exact ⟨by rw [D7,e2,if_neg hn],e2.symm⟩
theorem Ak3 {v:Vo} (h:Da v.evs.length 0 v.evs=0) (h2:¬C1 v.tups (wrS v.evs)≠0) (hn:F3 v.tups (wrS v.evs)≠0): []=D7 v∧21=Dq v:=by
 have e2:Dq v=21:=by rw [Dq,if_neg (by omega),if_neg h2,if_pos hn]
 exact ⟨by rw [D7,e2,if_neg (by decide)],e2.symm⟩
theorem Ak2 {v:Vo} (h:Da v.evs.length 0 v.evs=0) (h2:¬C1 v.tups (wrS v.evs)≠0) (h3:¬F3 v.tups (wrS v.evs)≠0):Id v.tups (wrS v.evs)=D7 v∧0=Dq v:=by
 have e2:Dq v=0:=by rw [Dq,if_neg (by omega),if_neg h2,if_neg h3]
 exact ⟨by rw [D7,e2,if_pos rfl],e2.symm⟩
theorem U9 (v:Vo) (hE:Evs v.evs) (hlen:v.evs.length≤128):XC Tryz.prog 88 [.agg (Vo.c v)] (fun r=>r= .tup [.sl 1 (B8 (D7 v)),dI (Dq v)]):=by
 refine Ao Agf Tryz.func88 R R lb<|zr<|XL.step R (At 1 (l:= [.d (.sl 13 (v.evs.map Ev.c)), .d (.sl 4 (v.tups.map Tp.c))]) R R (by kernel_rfl))<|za R R<|za R R<|zn<|zs<|zr<|zp (Aa R R Ax)<|zp (Ab R R Bk R R)<|XL.len R R R Tryz.underlying22 fun hl14=>zm R R<|zn<|Ah<|?_
 refine Ay (α:=Nat) (fun k=>k≤v.evs.length∧Da v.evs.length k (v.evs.drop k)=Da v.evs.length 0 v.evs) (fun k=>mkF [(1, .ptr 1 0 0),(13, .d (.sl 13 (v.evs.map Ev.c))),(14, .d (dI v.evs.length)),(15, .d (dI k))]) (fun k=>mkH [(1, .box ((Vo.c v).map S.d))]) (fun k=>v.evs.length - k) (0) (⟨Nat.zero_le _,by rw [List.drop_zero]⟩) ?_ ?_ ?_
 exact fz ⟨sr,sr,sr,sr,trivial⟩
 exact gz ⟨R,trivial⟩
 intro k hk0
 obtain ⟨hk,hgo⟩:=hk0
 refine zr<|zp (As R R R)<|zn<|zs<|?_
 refine zd R (fun c16=> ?_) (fun c16=> ?_)
 have hk0a:k<v.evs.length:=by omega
 obtain ⟨x0,hx0⟩:=Au hk0a
 have he:=hE x0 (List.mem_of_getElem? hx0)
 refine zi<|zs<|Ah<|zr<|zm R R<|zp (Am R R R B5 hx0)<|zp (Ae (s':= .d (.agg (Ev.c x0))) (Av R R A3 lb) (by kernel_rfl))<|XL.step R (A0 5 (l:= [.d (dI 0), .d (dI 0), .d (dI 0), .d (dI 0), .d (dI 0), .d (.v (.slice none 0 0)), .d (.v (.slice none 0 0)), .d (dI 0), .d (dI 0), .d (dI 0), .d (.v (.slice none 0 0)), .d (dI 0), .d (dI 0)]) R Bw (by kernel_rfl))<|?_
 refine za R R<|XL.step R (Ag (l':= [.d (dI x0.site), .d (dI x0.num), .d (dI x0.kind), .d (dI x0.v.log), .d (dI x0.v.dots), .d (.sl 5 (x0.heads.map Hd.c)), .d (.sl 5 (x0.graces.map Gr.c)), .d (dI x0.art), .d (dI x0.orn), .d (dI x0.dyn), .d (.sl 2 (x0.lyr.map Sy.c)), .d (dI x0.stem), .d (dI x0.beam)]) R R R R B4 R lb (by kernel_rfl))<|zn<|zs<|zr<|?_
 refine zp (Ae (s':= .d (.agg (Ev.c x0))) (Ac (Ad R R A3 R lb)) (by kernel_rfl))<|XL.call1 R R (Pn _ (by assumption)) R<|za R R<|znr<|zm R R<|zp (Be R R R)<|zn<|?_
 refine zd R (fun c23=> ?_) (fun c23=> ?_)
 refine zr<|zm R R<|za R R<|za R R<|zn<|zt<|?_
 exact Bh R (RV.nil (sz:=1) R R) (RV.tmp R R) (r2 (rSl (Pe (by rw [←hgo,Ri hx0 c23]) c23).1) (rI (Pe (by rw [←hgo,Ri hx0 c23]) c23).2))
 refine zi<|zr<|zp (Aa R R B2)<|zp (Ab R R Ai R R)<|zp (A5 R R R)<|zm R R<|?_
 refine XL.dec 28 R (fun g28=> ?_) (fun g28=> ?_)
 refine zm R R<|zp (Bb R R R)<|zm R R<|?_
 refine XL.dec 31 R (fun g31=> ?_) (fun g31=> ?_)
 refine zk 4 R<|zq R R R<|zq R R R<|zn<|Aq (by kernel_rfl) R<|zr<|za R R<|za R R<|zn<|zt<|?_
 exact Bh R (RV.nil (sz:=1) R R) (RV.tmp R R) (r2 (rSl (Pe (e:=11) (by rw [←hgo,Lf hx0 c23 (by omega)]) (by decide)).1) (rI (Pe (by rw [←hgo,Lf hx0 c23 (by omega)]) (by decide)).2))
 refine zp (Aa R R Ax)<|zp (Ab R R Bk R R)<|XL.len R R R Tryz.underlying22 fun hl34=>zp (Bb R R R)<|zq R R R<|zq R R R<|zn<|?_
 refine zd R (fun c37=> ?_) (fun c37=> ?_)
 refine zr<|za R R<|za R R<|zn<|zt<|?_
 exact Bh R (RV.nil (sz:=1) R R) (RV.tmp R R) (r2 (rSl (Pe (e:=11) (by rw [←hgo,Lf hx0 c23 (by omega)]) (by decide)).1) (rI (Pe (by rw [←hgo,Lf hx0 c23 (by omega)]) (by decide)).2))
 refine zi<|Af (by kernel_rfl)<|zp (Aj R R R (by omega) (by omega))<|zm R R<|zn<|?_
 exact Ak (k+1) (⟨by omega,by rw [←M1 hx0 c23 (by omega)];exact hgo⟩) (by omega) (fz ⟨sr,sr,sr,sr,trivial⟩) (gz ⟨rfl,trivial⟩)
 refine zk 8 R<|zq R R R<|zn<|A9 (by kernel_rfl) R<|zi<|Af (by kernel_rfl)<|zp (Aj R R R (by omega) (by omega))<|zm R R<|zn<|?_
 exact Ak (k+1) (⟨by omega,by rw [←M1 hx0 c23 (by omega)];exact hgo⟩) (by omega) (fz ⟨sr,sr,sr,sr,trivial⟩) (gz ⟨rfl,trivial⟩)
 have hk0b:k=v.evs.length:=by omega
 have hz:Da v.evs.length 0 v.evs=0:=by rw [←hgo,hk0b,List.drop_length];rfl
 refine Ap<|zr<|zp (Aa R R Ax)<|zp (Ab R R Bk R R)<|XL.call1 R R (Afr _ (by assumption) (by omega)) R<|za R R<|znr<|zp (Aa R R Bn)<|zp (Ab R R B1 R R)<|zm R R<|XL.call1 R R (Tz _ _) R<|zm R R<|zp (A6 R R R)<|zp (A6 R R R)<|?_
 refine za R R<|za R R<|zn<|zs<|zr<|zm R R<|zp (Be R R R)<|zn<|?_
 refine zd R (fun c50=> ?_) (fun c50=> ?_)
 refine zr<|zm R R<|za R R<|za R R<|zn<|zt<|?_
 exact Bh R (RV.nil (sz:=1) R R) (RV.tmp R R) (r2 (rSl (Ak4 hz c50).1) (rI (Ak4 hz c50).2))
 refine zi<|zs<|zr<|zp (Aa R R Bn)<|zp (Ab R R B1 R R)<|zm R R<|XL.call1 R R (Aox _ _) R<|zm R R<|zp (A6 R R R)<|zp (A6 R R R)<|za R R<|za R R<|znr<|zm R R<|?_
 refine zp (Be R R R)<|zn<|?_
 refine zd R (fun c60=> ?_) (fun c60=> ?_)
 refine zr<|za R R<|za R R<|zn<|zt<|?_
 exact Bh R (RV.nil (sz:=1) R R) (RV.tmp R R) (r2 (rSl (Ak3 hz c50 c60).1) (rI (Ak3 hz c50 c60).2))
 refine zi<|zr<|zm R R<|za R R<|za R R<|zn<|zt<|?_
 exact Bh R (RV.tmp R R) (RV.tmp R R) (r2 (rSl (Ak2 hz c50 c60).1) (rI (Ak2 hz c50 c60).2))
def Cj (v:Vo) (L:Int):Int:=
 if L<1∨15482880<L then 2 else if 128<v.evs.length then 9 else
 if v.whole∧v.evs.length=1 then (match v.evs with| []=>0|e::_=>if e.err≠0 then e.err else if 0<v.tups.length then 21 else 0) else Dq v
def Cz (v:Vo) (L:Int):List Int:=if Cj v L≠0 then [] else if v.whole∧v.evs.length=1 then [L] else D7 v
def ckE (v:Vo) (L:Int):Int:=if Cj v L=0∧0<(Cz v L).length∧tot (Cz v L)≠L then 20 else Cj v L
def ckL (v:Vo) (L:Int):List Int:=if ckE v L≠0 then [] else Cz v L
theorem Tl {v:Vo} {L:Int} (h:L<1∨15482880<L): []=Cz v L∧2=Cj v L:=by
 have e:Cj v L=2:=by rw [Cj,if_pos h]
 exact ⟨by rw [Cz,e,if_pos (by decide)],e.symm⟩
theorem Ak0 {v:Vo} {L:Int} (h:¬L<1) (h':¬15482880<L) (h2:128<(v.evs.length:Int)): []=Cz v L∧9=Cj v L:=by
 have e:Cj v L=9:=by rw [Cj,if_neg (by omega),if_pos (by omega)]
 exact ⟨by rw [Cz,e,if_pos (by decide)],e.symm⟩
theorem Wy {v:Vo} {L:Int} (h:¬L<1) (h':¬15482880<L) (h2:¬128<(v.evs.length:Int)) (hw:v.whole) (h1:(v.evs.length:Int)=1) {e:Ev} (he:v.evs[0]? =some e):
  Cj v L=(if e.err≠0 then e.err else if 0<v.tups.length then 21 else 0):=by
 rw [Cj,if_neg (by omega),if_neg (by omega),if_pos ⟨hw,by omega⟩]
 cases hv:v.evs with
 |nil=>rw [hv] at he;cases he
 |cons x l=>rw [hv] at he;cases he;rfl
theorem Ww {v:Vo} {L:Int} (h:¬L<1) (h':¬15482880<L) (h2:¬128<(v.evs.length:Int)) (hw:¬(v.whole∧(v.evs.length:Int)=1)):D7 v=Cz v L∧Dq v=Cj v L:=by
 have hw':¬(v.whole∧v.evs.length=1):=fun k=>hw ⟨k.1,by omega⟩
 have e:Cj v L=Dq v:=by rw [Cj,if_neg (by omega),if_neg (by omega),if_neg hw']
 refine ⟨?_,e.symm⟩
 rw [Cz,e,if_neg hw']
 split
 ·rename_i hn;rw [D7,if_neg hn]
 ·rfl
theorem Wx {v:Vo} {L a:Int} (h:Cj v L=a) (ha:a≠0): []=Cz v L∧a=Cj v L:=⟨by rw [Cz,h,if_pos ha],h.symm⟩
theorem Ann {v:Vo} {L:Int} (h:Cj v L=0) (hw:v.whole) (h1:(v.evs.length:Int)=1): [L]=Cz v L∧0=Cj v L:=⟨by rw [Cz,h,if_neg (by decide),if_pos ⟨hw,by omega⟩],h.symm⟩
theorem Akz (v:Vo) (L:Int) (hE:Evs v.evs):XC Tryz.prog 71 [.agg (Vo.c v), .v (.int .i64 L)] (fun r=>r= .tup [.sl 1 (B8 (Cz v L)),dI (Cj v L)]):=by
 refine Ao Agw Tryz.func71 R R lb<|zr<|XL.step R (At 2 (l:= [.d (.sl 13 (v.evs.map Ev.c)), .d (.sl 4 (v.tups.map Tp.c))]) R R (by kernel_rfl))<|za R R<|za R R<|zn<|zs<|Ah<|zr<|zm R R<|zp (As R R R)<|zm R R<|?_
 refine XL.dec 10 R (fun g10=> ?_) (fun g10=> ?_)
 refine zk 2 R<|zq R R R<|za R R<|zn<|Aq (by kernel_rfl) R<|zr<|za R R<|za R R<|zn<|zt<|?_
 exact Bh R (RV.nil (sz:=1) R R) (RV.tmp R R) (r2 (rSl (Tl (v:=v) (by omega)).1) (rI (Tl (v:=v) (by omega)).2))
 refine zm R R<|zp (Bb R R R)<|zq R R R<|za R R<|zn<|?_
 refine zd R (fun c7=> ?_) (fun c7=> ?_)
 refine zr<|za R R<|za R R<|zn<|zt<|?_
 exact Bh R (RV.nil (sz:=1) R R) (RV.tmp R R) (r2 (rSl (Tl (v:=v) (by omega)).1) (rI (Tl (v:=v) (by omega)).2))
 refine zr<|zp (Aa R R Ax)<|zp (Ab R R Bk R R)<|XL.len R R R Tryz.underlying22 fun hl17=>zp (Bb R R R)<|za R R<|zn<|?_
 refine zd R (fun c14=> ?_) (fun c14=> ?_)
 refine zr<|za R R<|za R R<|zn<|zt<|?_
 exact Bh R (RV.nil (sz:=1) R R) (RV.tmp R R) (r2 (rSl (Ak0 g10 c7 c14).1) (rI (Ak0 g10 c7 c14).2))
 refine zi<|zs<|zr<|zp (Ae (s':= .d (.agg (Vo.c v))) (Ac (Ad R R An R lb)) (by kernel_rfl))<|XL.call1 R R (Aaq _) R<|zm R R<|?_
 refine XL.dec 21 R (fun g21=> ?_) (fun g21=> ?_)
 refine zp (Aa R R Ax)<|zp (Ab R R Bk R R)<|XL.len R R R Tryz.underlying22 fun hl24=>zp (A5 R R R)<|zq R R R<|zn<|?_
 refine zd R (fun c26=> ?_) (fun c26=> ?_)
 refine zs<|zs<|?_
 obtain ⟨e,hxe⟩:∃e,v.evs[0]? =some e:=Au (by omega)
 have he:=hE e (List.mem_of_getElem? hxe)
 have hle:=Wy (L:=L) g10 c7 c14 g21 c26 hxe
 refine Af (by kernel_rfl)<|zp (Aa R R Ax)<|zp (Ab R R Bk R R)<|zp (Am (k:=0) R R R B5 (hxe))<|zp (Ae (s':= .d (.agg (Ev.c e))) (Av R R A3 lb) (by kernel_rfl))<|XL.call1 R R (Pn _ (by assumption)) R<|za R R<|znr<|zm R R<|zp (Be R R R)<|zn<|?_
 refine zd R (fun c33=> ?_) (fun c33=> ?_)
 refine zr<|zm R R<|za R R<|za R R<|zn<|zt<|?_
 exact Bh R (RV.nil (sz:=1) R R) (RV.tmp R R) (r2 (rSl (Wx (by rw [hle,if_pos c33]) c33).1) (rI (Wx (by rw [hle,if_pos c33]) c33).2))
 refine zi<|zs<|zr<|zp (Aa R R Bn)<|zp (Ab R R B1 R R)<|XL.len R R R Tryz.underlying23 fun hl37=>zp (Bb R R R)<|zn<|?_
 refine zd R (fun c38=> ?_) (fun c38=> ?_)
 refine zr<|za R R<|za R R<|zn<|zt<|?_
 exact Bh R (RV.nil (sz:=1) R R) (RV.tmp R R) (r2 (rSl (Wx (a:=21) (by rw [hle,if_neg c33,if_pos (by omega)]) (by decide)).1) (rI (Wx (a:=21) (by rw [hle,if_neg c33,if_pos (by omega)]) (by decide)).2))
 refine zi<|zr<|zm R R<|XL.step R (Bj 40 R Tryz.underlying64 Cs Eu R R (by omega) (by omega))<|zp (Ar R (by conv=>lhs;whnf))<|?_
 refine za R R<|zn<|zt<|Bg (i:=40) R<|?_
 exact Bh R (RV.tmp R R) (RV.tmp R R) (r2 (rSl (l:= [L]) (g:=iv) (Ann (by rw [hle,if_neg c33,if_neg (by omega)]) g21 c26).1) (rI (Ann (by rw [hle,if_neg c33,if_neg (by omega)]) g21 c26).2))
 refine zi<|zr<|zp (Ae (s':= .d (.agg (Vo.c v))) (Ac (Ad R R An R lb)) (by kernel_rfl))<|XL.call1 R R (U9 _ (by assumption) (by omega)) R<|zp (A6 R R R)<|zp (A6 R R R)<|za R R<|za R R<|zn<|zt<|?_
 exact Bh R (RV.tmp R R) (RV.tmp R R) (r2 (rSl (Ww g10 c7 c14 (fun h=>c26 h.2)).1) (rI (Ww g10 c7 c14 (fun h=>c26 h.2)).2))
 refine zk 4 R<|zq R R R<|zn<|A9 (by kernel_rfl) R<|zi<|zr<|zp (Ae (s':= .d (.agg (Vo.c v))) (Ac (Ad R R An R lb)) (by kernel_rfl))<|XL.call1 R R (U9 _ (by assumption) (by omega)) R<|zp (A6 R R R)<|zp (A6 R R R)<|za R R<|za R R<|zn<|zt<|?_
 exact Bh R (RV.tmp R R) (RV.tmp R R) (r2 (rSl (Ww g10 c7 c14 (fun h=>g21 h.1)).1) (rI (Ww g10 c7 c14 (fun h=>g21 h.1)).2))
end Go.Proofs.YtcihalbakenleaaGreat
