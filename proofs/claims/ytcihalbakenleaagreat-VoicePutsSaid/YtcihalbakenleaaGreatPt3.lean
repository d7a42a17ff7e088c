/- Part 3 of what the statements need: lemmas and walks. -/
import Derived.Laws.StructEq
import Derived.Test.YtcihalbakenleaaGreatPt2
set_option linter.unusedVariables false
set_option linter.unusedSimpArgs false
set_option linter.unusedSectionVars false
set_option maxRecDepth 20000
set_option maxHeartbeats 8000000
namespace Go.Proofs.YtcihalbakenleaaGreat
open Go.RowKit
section
variable {P:Program} {n:Nat} {f:Fr} {h:Xh}
theorem RV.cells {a t m i:Nat} {l:List S} {ds:List D} (ha:Nat.blt a n=true) (hf:f a= .ptr i 0 0) (hi:h i=some (.box l)) (hs:aggB P t m=true) (hm:m≤l.length) (hd:Km (l.take m)=some ds):RV P n f h (.cell a t) (.agg ds):=fun E H β act w hsim hfv=>by
 have g:=hfv.slot a (Ha ha)
 rw [hf] at g
 obtain ⟨L,h1,h2⟩:=G8 g
 rw [Nat.zero_mul,Nat.zero_add] at h2
 have hp : Bv P ⟨none, .load t (.tmp 0), t, "", #[], none⟩ (fun _ => .ptr i 0 0) h (.agg ((l.drop 0).take m)) := Ad rfl rfl hs hi (by omega)
 obtain ⟨u,r1,r2⟩:=hp E H β (fun _=>act.tmps.getD a undef) w hsim (fun x _=>by rw [h2];have:=VS.ptr (H:=H) 0 0 h1;rw [Nat.zero_mul,Nat.zero_add] at this;exact this)
 rw [Ja rfl h2] at r1
 refine ⟨u, ?_, ?_⟩
 ·unfold Vp
  simp only [Sem.run_bind,h2,asAddr,Sem.run_pure,Result.andThen_ok]
  generalize (loadVar t ⟨L.b,0,none⟩).run P w=r at r1
  cases r with
  |ok v w'=>simp only [Result.andThen_ok,Result.ok.injEq,Next.value.injEq] at r1;obtain ⟨rfl,rfl⟩:=r1;rfl
  |halt x w'=>simp [Result.andThen] at r1
 ·have:=r2.norm
  rw [List.drop_zero] at this
  unfold norm at this
  simp only [hd] at this
  exact Ex this
end
theorem Ak {α:Type} {n:Nat} {I:α→Prop} {F:α→Fr} {G:α→Xh} {μ:α→Nat} {x:α} {K:Ee} {f:Fr} {h:Xh} (x':α) (h1:I x') (h2:μ x'<μ x) (h3:FSub n f (F x')) (h4:HSub h (G x')):
  Oz (fun f' h'=>∃x',I x'∧μ x'<μ x∧FSub n f' (F x')∧HSub h' (G x')) K .normal f h:=⟨x',h1,h2,h3,h4⟩
section
variable {P:Program} {n:Nat} {ops:Array Oper} {rest:List Oper} {K:Ee} {f:Fr} {h:Xh} {o:Oper} {F:FuncId} {ds:List D} {args:Array Operand} {tys:Array TypeId} {r:D}
theorem XL.call1 (ho:o.op= .call {callee:= .value (.func F),args:=args,argTypes:=tys}) (hw:Ct ops f n o.guard=some true) (hx:XC P F ds (fun d=>d=r))
  (ha:args.toList.map (ev f)=ds.map S.d) (hr:XL P n ops rest K (B9 f o.dst (.d r)) h):XL P n ops (o::rest) K f h:=
 XL.call ho hw hx ha (by rintro _ rfl;exact hr)
theorem XL.callv1 {x:Operand} {ps cs:List D} (ho:o.op= .call {callee:= .value x,args:=args,argTypes:=tys}) (hw:Ct ops f n o.guard=some true) (hxe:ev f x= .d (.fn F ps cs))
  (hx:XC P F (ps++ds++cs) (fun d=>d=r)) (ha:args.toList.map (ev f)=ds.map S.d) (hr:XL P n ops rest K (B9 f o.dst (.d r)) h):XL P n ops (o::rest) K f h:=
 XL.callv ho hw hxe hx ha (by rintro _ rfl;exact hr)
end
section
variable {P:Program} {o:Oper} {e:Operand→S} {h:Xh}
theorem B2 {t:TypeId} {x:Operand} {p:Prop} [Decidable p] (ho:o.op= .unOp .not t x) (hx:e x= .d (.v (.bool (decide p)))):Bv P o e h (.d (.v (.bool (decide (¬p))))):=by
 have:=Dd (P:=P) (h:=h) ho hx
 rwa [←decide_not] at this
def N4:List D→Option (List Value)
 | []=>some []
 | .v x::l=>match N4 l with|some vs=>some (x::vs)|none=>none
 |_::_=>none
theorem Tl:∀{l:List D} {vs:List Value},N4 l=some vs→l=vs.map D.v
 | [],vs,h=>by cases h;rfl
 | .v x::l,vs,h=>by
  unfold N4 at h
  cases hd:N4 l with
  |none=>rw [hd] at h;cases h
  |some vs'=>rw [hd] at h;cases h;rw [List.map_cons, ←Tl hd]
theorem Xy {H:Hp} {u:Value} {l:List D} {vs:List Value} (hv:VD H u (.agg l)) (hp:N4 l=some vs):u= .agg vs.toArray:=by
 obtain ⟨cs,rfl,h1,h2⟩:=U9 hv
 have:=Tl hp
 subst this
 congr 1
 apply Array.ext'
 refine List.ext_getElem? fun i=> ?_
 by_cases hi:i<cs.size
 ·have hc:cs[i]? =some cs[i]:=Array.getElem?_eq_getElem hi
  rw [List.length_map] at h1
  have hl:vs[i]? =some vs[i]:=List.getElem?_eq_getElem (by omega)
  have:=T3 (h2 i _ (.v vs[i]) hc (by rw [List.getElem?_map,hl];rfl))
  rw [Array.getElem?_toList,hc,this]
  simp [hl]
 ·rw [List.length_map] at h1
  rw [List.getElem?_eq_none (by simpa using hi),List.getElem?_eq_none (by simp;omega)]
theorem Gh {op:BinOp} {t t':TypeId} {x y:Operand} {la lb:List D} {va vb:List Value} {r:Value} (ho:o.op= .binOp op t x y t') (hx:e x= .d (.agg la)) (hy:e y= .d (.agg lb)) (ha:N4 la=some va) (hb:N4 lb=some vb)
  (hg:P.eqGuardType P.depth t=false) (hr:∀w,(binOp op t (.agg va.toArray) (.agg vb.toArray)).run P w= .ok r w):Bv P o e h (.d (.v r)):=fun E H β ρ w _ hop=>by
 have g1:=hop x (by rw [ho];simp [Op.operands])
 have g2:=hop y (by rw [ho];simp [Op.operands])
 rw [hx] at g1
 rw [hy] at g2
 refine ⟨r, ?_, .d (.v _)⟩
 unfold execOp
 simp only [ho,Xy (Ex g1) ha,Xy (Ex g2) hb,Sem.run_bind,run_eqGuard_agg w op t x y va.toArray vb.toArray hg,Result.andThen_ok,hr,Sem.run_pure]
theorem H6 {t m k i off:Nat} {x y:Operand} {el:TypeId} {ik:IntKind} (ho:o.op= .indexAddr t x y) (hx:e x= .ptr i 0 off) (hy:e y= .d (.v (.int ik k))) (hu:P.underlying t=some (.array m el)) (hz:sizeB P el 1=true) (hk:k<m):Bv P o e h (.ptr i 0 (off+k)):=fun E H β ρ w _ hop=>by
 have g:=hop x (by rw [ho];simp [Op.operands])
 have g2:=hop y (by rw [ho];simp [Op.operands])
 rw [hx] at g
 rw [hy] at g2
 obtain ⟨L,h1,h2⟩:=G8 g
 have hlt:(0:Int)≤(k:Int)∧(k:Int)<(m:Int):=⟨by omega,by omega⟩
 refine ⟨.pointer (some ⟨L.b,0*L.sz+(off+k),none⟩), ?_, .ptr 0 (off+k) h1⟩
 unfold execOp
 simp only [ho,h2,Ew g2,Instr.indexAt,asIntOf,Instr.sureAddr,Sem.run_bind,run_underlying hu,Result.andThen_ok,Sem.run_pure,hlt,and_self,if_true,sizeB.run hz,Int.toNat_natCast,Nat.mul_one]
 rw [Go.WideShapes.add_plain,Nat.add_assoc]
end
end Go.Proofs.YtcihalbakenleaaGreat
namespace Go.Proofs.YtcihalbakenleaaGreat
open Go.RowKit
def iv (k:Int):List D:= [.v (.int .i64 k)]
def B8 (l:List Int):List (List D):=l.map iv
structure Pit where
 step:Int
 alter:Int
 oct:Int
 deriving DecidableEq
def Pit.c (p:Pit):List D:= [.v (.int .i64 p.step), .v (.int .i64 p.alter), .v (.int .i64 p.oct)]
structure Hd where
 p:Pit
 tied:Bool
 sh:Int
 deriving DecidableEq
def Hd.c (h:Hd):List D:= [.v (.int .i64 h.p.step), .v (.int .i64 h.p.alter), .v (.int .i64 h.p.oct), .v (.bool h.tied), .v (.int .i64 h.sh)]
structure Gr where
 p:Pit
 log:Int
 slash:Bool
 deriving DecidableEq
def Gr.c (g:Gr):List D:= [.v (.int .i64 g.p.step), .v (.int .i64 g.p.alter), .v (.int .i64 g.p.oct), .v (.int .i64 g.log), .v (.bool g.slash)]
structure Sy where
 text:List UInt8
 link:Int
 deriving DecidableEq
def Sy.c (s:Sy):List D:= [.v (.string ⟨s.text.toArray⟩), .v (.int .i64 s.link)]
structure Val where
 log:Int
 dots:Int
 deriving DecidableEq
def Val.c (v:Val):List D:= [.v (.int .i64 v.log), .v (.int .i64 v.dots)]
structure Ev where
 site:Int
 num:Int
 kind:Int
 v:Val
 heads:List Hd
 graces:List Gr
 art:Int
 orn:Int
 dyn:Int
 lyr:List Sy
 stem:Int
 beam:Int
def hdsD (l:List Hd):D:= .sl 5 (l.map Hd.c)
def grsD (l:List Gr):D:= .sl 5 (l.map Gr.c)
def sysD (l:List Sy):D:= .sl 2 (l.map Sy.c)
def Ev.c (e : Ev) : List D := [.v (.int .i64 e.site), .v (.int .i64 e.num), .v (.int .i64 e.kind), .v (.int .i64 e.v.log), .v (.int .i64 e.v.dots), .sl 5 (e.heads.map Hd.c), .sl 5 (e.graces.map Gr.c),
 .v (.int .i64 e.art), .v (.int .i64 e.orn), .v (.int .i64 e.dyn), .sl 2 (e.lyr.map Sy.c), .v (.int .i64 e.stem), .v (.int .i64 e.beam)]
structure Tp where
 first:Int
 count:Int
 actual:Int
 normal:Int
 deriving DecidableEq
def Tp.c (t:Tp):List D:= [.v (.int .i64 t.first), .v (.int .i64 t.count), .v (.int .i64 t.actual), .v (.int .i64 t.normal)]
structure Vo where
 evs:List Ev
 tups:List Tp
def Vo.c (v:Vo):List D:= [.sl 13 (v.evs.map Ev.c), .sl 4 (v.tups.map Tp.c)]
structure Me where
 count:Int
 unit:Int
 g0:Int
 g1:Int
 g2:Int
 g3:Int
 g4:Int
 g5:Int
 deriving DecidableEq
def Me.gs (m:Me):List Int:= [m.g0,m.g1,m.g2,m.g3,m.g4,m.g5]
def Me.c (m:Me):List D:= [.v (.int .i64 m.count), .v (.int .i64 m.unit), .v (.int .i64 m.g0), .v (.int .i64 m.g1), .v (.int .i64 m.g2), .v (.int .i64 m.g3), .v (.int .i64 m.g4), .v (.int .i64 m.g5)]
structure Pl where
 m:Me
 off:Int
 len:Int
def Pl.c (p:Pl):List D:= [.v (.int .i64 p.m.count), .v (.int .i64 p.m.unit), .v (.int .i64 p.m.g0), .v (.int .i64 p.m.g1), .v (.int .i64 p.m.g2), .v (.int .i64 p.m.g3), .v (.int .i64 p.m.g4), .v (.int .i64 p.m.g5), .v (.int .i64 p.off), .v (.int .i64 p.len)]
theorem C0 {α:Type} {l:List α} {k:Nat} {x:α} (h:l[k]? =some x):l.drop k=x::l.drop (k+1):=by
 obtain ⟨hk,e⟩:=List.getElem?_eq_some_iff.1 h
 rw [←e];exact List.drop_eq_getElem_cons hk
theorem Ml (l:List UInt8):(ByteArray.mk l.toArray).toList=l:=by rw [ByteArray.toList_eq]
theorem Qa {l:List UInt8} {k:Nat} {b:UInt8} (h:l[k]? =some b):(ByteArray.mk l.toArray)[k]? =some b:=by
 obtain ⟨hk,e⟩:=List.getElem?_eq_some_iff.1 h
 have hk':k<(ByteArray.mk l.toArray).size:=by simpa [ByteArray.size] using hk
 rw [getElem?_pos (ByteArray.mk l.toArray) k hk', ←e]
 rfl
theorem Ce {α:Type} {f:α→List D} {l:List α} {k:Nat} {x:α} (h:l[k]? =some x):(l.map f)[k]? =some (f x):=by rw [List.getElem?_map,h];rfl
theorem At {α:Type} {l:List α} {k:Nat} (h:k<l.length):∃x,l[k]? =some x:=⟨_,List.getElem?_eq_getElem h⟩
abbrev dI (n:Int):D:= .v (.int .i64 n)
abbrev dB (b:Bool):D:= .v (.bool b)
def I64 (n:Int):Prop:= -9223372036854775808≤n∧n≤9223372036854775807
end Go.Proofs.YtcihalbakenleaaGreat
namespace Go.Proofs.YtcihalbakenleaaGreat
open Go.RowKit
theorem Dc:sizeB Tryz.prog 3 1=true:=by kernel_rfl
theorem E2:zeroB Tryz.prog 3 (.int .i64 0):=by unfold zeroB;kernel_rfl
theorem Ai:scB Tryz.prog 3=true:=by kernel_rfl
theorem Pf:sizeB Tryz.prog 4 1=true:=by kernel_rfl
theorem Kq:scB Tryz.prog 4=true:=by kernel_rfl
theorem Lx:scB Tryz.prog 9=true:=by kernel_rfl
theorem Vi:sizeB Tryz.prog 22 1=true:=by kernel_rfl
theorem Aqo:zeroB Tryz.prog 22 (.slice none 0 0):=by unfold zeroB;kernel_rfl
theorem Bi:scB Tryz.prog 22=true:=by kernel_rfl
theorem B6:elB Tryz.prog 22 13=true:=by kernel_rfl
theorem Dz:ElemTy Tryz.prog 22 60 13 152:=ElemTy.of (z:=(.agg #[.int .i64 0, .int .i64 0, .int .i64 0, .int .i64 0, .int .i64 0, .slice none 0 0, .slice none 0 0, .int .i64 0, .int .i64 0, .int .i64 0, .slice none 0 0, .int .i64 0, .int .i64 0])) Tryz.underlying22 (by kernel_rfl) rfl (by omega)
theorem Hb:sizeB Tryz.prog 23 1=true:=by kernel_rfl
theorem Aqn:zeroB Tryz.prog 23 (.slice none 0 0):=by unfold zeroB;kernel_rfl
theorem B0:scB Tryz.prog 23=true:=by kernel_rfl
theorem D4:elB Tryz.prog 23 4=true:=by kernel_rfl
theorem Gy:ElemTy Tryz.prog 23 102 4 32:=ElemTy.of (z:=(.agg #[.int .i64 0, .int .i64 0, .int .i64 0, .int .i64 0])) Tryz.underlying23 (by kernel_rfl) rfl (by omega)
theorem Bm:sizeB Tryz.prog 25 2=true:=by kernel_rfl
theorem A9:zeroB Tryz.prog 25 (.agg #[.slice none 0 0, .slice none 0 0]):=by unfold zeroB;kernel_rfl
theorem Ap:aggB Tryz.prog 25 2=true:=by kernel_rfl
theorem B7:Lv Tryz.prog 25 [(0,1),(1,1)]=true:=by kernel_rfl
theorem Ay:Dh Tryz.prog 25 0 0=true:=by kernel_rfl
theorem Bn:Dh Tryz.prog 25 1 1=true:=by kernel_rfl
theorem Ahg:zeroB Tryz.prog 26 (.agg #[.int .i64 0, .int .i64 0, .int .i64 0, .int .i64 0, .int .i64 0, .int .i64 0]):=by unfold zeroB;kernel_rfl
theorem Ae2:aggB Tryz.prog 26 6=true:=by kernel_rfl
theorem Aqm:zeroB Tryz.prog 28 (.agg #[.int .i64 0, .int .i64 0, .int .i64 0, .int .i64 0, .int .i64 0, .int .i64 0, .int .i64 0, .int .i64 0]):=by unfold zeroB;kernel_rfl
theorem Bq:aggB Tryz.prog 28 8=true:=by kernel_rfl
theorem Ate:Lv Tryz.prog 28 [(0,1),(1,1),(2,6)]=true:=by kernel_rfl
theorem D6:Dh Tryz.prog 28 0 0=true:=by kernel_rfl
theorem Ic:Dh Tryz.prog 28 1 1=true:=by kernel_rfl
theorem Gk:Dh Tryz.prog 28 2 2=true:=by kernel_rfl
theorem Avb:sizeB Tryz.prog 30 10=true:=by kernel_rfl
theorem Ahf:zeroB Tryz.prog 30 (.agg #[.int .i64 0, .int .i64 0, .int .i64 0, .int .i64 0, .int .i64 0, .int .i64 0, .int .i64 0, .int .i64 0, .int .i64 0, .int .i64 0]):=by unfold zeroB;kernel_rfl
theorem Ir:aggB Tryz.prog 30 10=true:=by kernel_rfl
theorem Atd:Lv Tryz.prog 30 [(0,8),(8,1),(9,1)]=true:=by kernel_rfl
theorem Q8:Dh Tryz.prog 30 0 0=true:=by kernel_rfl
theorem Ib:Dh Tryz.prog 30 1 8=true:=by kernel_rfl
theorem G6:Dh Tryz.prog 30 2 9=true:=by kernel_rfl
theorem Oi:sizeB Tryz.prog 33 1=true:=by kernel_rfl
theorem K4:zeroB Tryz.prog 33 (.int .i64 0):=by unfold zeroB;kernel_rfl
theorem Avc:scB Tryz.prog 33=true:=by kernel_rfl
theorem Ae1:aggB Tryz.prog 39 10=true:=by kernel_rfl
theorem Oc:Dh Tryz.prog 39 0 0=true:=by kernel_rfl
theorem Gj:Dh Tryz.prog 39 1 8=true:=by kernel_rfl
theorem J9:Dh Tryz.prog 39 2 9=true:=by kernel_rfl
theorem Hs:sizeB Tryz.prog 48 1=true:=by kernel_rfl
theorem Cu:scB Tryz.prog 48=true:=by kernel_rfl
theorem Fg:elB Tryz.prog 48 5=true:=by kernel_rfl
theorem Sc:ElemTy Tryz.prog 48 91 5 40:=ElemTy.of (z:=(.agg #[.int .i64 0, .int .i64 0, .int .i64 0, .bool false, .int .i64 0])) Tryz.underlying48 (by kernel_rfl) rfl (by omega)
theorem Ava:sizeB Tryz.prog 54 2=true:=by kernel_rfl
theorem Aql:zeroB Tryz.prog 54 (.agg #[.int .i64 0, .int .i64 0]):=by unfold zeroB;kernel_rfl
theorem Ks:aggB Tryz.prog 54 2=true:=by kernel_rfl
theorem Atc:Lv Tryz.prog 54 [(0,1),(1,1)]=true:=by kernel_rfl
theorem Ab1:Dh Tryz.prog 54 0 0=true:=by kernel_rfl
theorem Ab0:Dh Tryz.prog 54 1 1=true:=by kernel_rfl
theorem Dw:sizeB Tryz.prog 56 2=true:=by kernel_rfl
theorem Do:zeroB Tryz.prog 56 (.agg #[.int .i64 0, .int .i64 0]):=by unfold zeroB;kernel_rfl
theorem Cn:aggB Tryz.prog 56 2=true:=by kernel_rfl
theorem Jw:Lv Tryz.prog 56 [(0,1),(1,1)]=true:=by kernel_rfl
theorem Mb:Dh Tryz.prog 56 0 0=true:=by kernel_rfl
theorem Ia:Dh Tryz.prog 56 1 1=true:=by kernel_rfl
theorem Ap2:sizeB Tryz.prog 57 1=true:=by kernel_rfl
theorem Jr:scB Tryz.prog 57=true:=by kernel_rfl
theorem Ra:elB Tryz.prog 57 5=true:=by kernel_rfl
theorem Aup:ElemTy Tryz.prog 57 138 5 40:=ElemTy.of (z:=(.agg #[.int .i64 0, .int .i64 0, .int .i64 0, .int .i64 0, .bool false])) Tryz.underlying57 (by kernel_rfl) rfl (by omega)
theorem Ap1:sizeB Tryz.prog 58 1=true:=by kernel_rfl
theorem Jq:scB Tryz.prog 58=true:=by kernel_rfl
theorem O8:elB Tryz.prog 58 2=true:=by kernel_rfl
theorem Auo:ElemTy Tryz.prog 58 140 2 24:=ElemTy.of (z:=(.agg #[.string ⟨#[]⟩, .int .i64 0])) Tryz.underlying58 (by kernel_rfl) rfl (by omega)
theorem B4:sizeB Tryz.prog 60 13=true:=by kernel_rfl
theorem B3:zeroB Tryz.prog 60 (.agg #[.int .i64 0, .int .i64 0, .int .i64 0, .int .i64 0, .int .i64 0, .slice none 0 0, .slice none 0 0, .int .i64 0, .int .i64 0, .int .i64 0, .slice none 0 0, .int .i64 0, .int .i64 0]):=by unfold zeroB;kernel_rfl
theorem Az:aggB Tryz.prog 60 13=true:=by kernel_rfl
theorem Nr:Lv Tryz.prog 60 [(0,2),(2,1),(3,2),(5,1),(6,1),(7,1),(8,1),(9,1),(10,1),(11,1),(12,1)]=true:=by kernel_rfl
theorem Fj:Dh Tryz.prog 60 0 0=true:=by kernel_rfl
theorem Bz:Dh Tryz.prog 60 1 2=true:=by kernel_rfl
theorem Cm:Dh Tryz.prog 60 2 3=true:=by kernel_rfl
theorem Be:Dh Tryz.prog 60 3 5=true:=by kernel_rfl
theorem E7:Dh Tryz.prog 60 4 6=true:=by kernel_rfl
theorem Dl:Dh Tryz.prog 60 5 7=true:=by kernel_rfl
theorem G5:Dh Tryz.prog 60 6 8=true:=by kernel_rfl
theorem E6:Dh Tryz.prog 60 7 9=true:=by kernel_rfl
theorem E5:Dh Tryz.prog 60 8 10=true:=by kernel_rfl
theorem Ep:Dh Tryz.prog 60 9 11=true:=by kernel_rfl
theorem Ga:Dh Tryz.prog 60 10 12=true:=by kernel_rfl
theorem C4:elB Tryz.prog 64 1=true:=by kernel_rfl
theorem Hr:ElemTy Tryz.prog 64 3 1 8:=ElemTy.of (z:=(.int .i64 0)) Tryz.underlying64 (by kernel_rfl) rfl (by omega)
theorem Abz:Dh Tryz.prog 83 0 0=true:=by kernel_rfl
theorem Aby:Dh Tryz.prog 83 1 1=true:=by kernel_rfl
theorem Uy:Dh Tryz.prog 83 2 2=true:=by kernel_rfl
theorem Aqk:zeroB Tryz.prog 89 (.agg #[.int .i64 0, .int .i64 0, .int .i64 0]):=by unfold zeroB;kernel_rfl
theorem Eu:aggB Tryz.prog 89 3=true:=by kernel_rfl
theorem Atb:Lv Tryz.prog 89 [(0,1),(1,1),(2,1)]=true:=by kernel_rfl
theorem Ma:Dh Tryz.prog 89 0 0=true:=by kernel_rfl
theorem L9:Dh Tryz.prog 89 1 1=true:=by kernel_rfl
theorem L8:Dh Tryz.prog 89 2 2=true:=by kernel_rfl
theorem M2:sizeB Tryz.prog 91 5=true:=by kernel_rfl
theorem Hy:zeroB Tryz.prog 91 (.agg #[.int .i64 0, .int .i64 0, .int .i64 0, .bool false, .int .i64 0]):=by unfold zeroB;kernel_rfl
theorem Kd:aggB Tryz.prog 91 5=true:=by kernel_rfl
theorem Aaj:Lv Tryz.prog 91 [(0,3),(3,1),(4,1)]=true:=by kernel_rfl
theorem Gi:Dh Tryz.prog 91 0 0=true:=by kernel_rfl
theorem Du:Dh Tryz.prog 91 1 3=true:=by kernel_rfl
theorem Q7:Dh Tryz.prog 91 2 4=true:=by kernel_rfl
theorem Ii:elB Tryz.prog 98 4=true:=by kernel_rfl
theorem Ws:ElemTy Tryz.prog 98 135 4 32:=ElemTy.of (z:=(.agg #[.int .i64 0, .int .i64 0, .int .i64 0, .int .i64 0])) Tryz.underlying98 (by kernel_rfl) rfl (by omega)
theorem Ef:sizeB Tryz.prog 102 4=true:=by kernel_rfl
theorem C9:zeroB Tryz.prog 102 (.agg #[.int .i64 0, .int .i64 0, .int .i64 0, .int .i64 0]):=by unfold zeroB;kernel_rfl
theorem Cb:aggB Tryz.prog 102 4=true:=by kernel_rfl
theorem Arb:Lv Tryz.prog 102 [(0,1),(1,1),(2,1),(3,1)]=true:=by kernel_rfl
theorem By:Dh Tryz.prog 102 0 0=true:=by kernel_rfl
theorem Dm:Dh Tryz.prog 102 1 1=true:=by kernel_rfl
theorem Mr:Dh Tryz.prog 102 2 2=true:=by kernel_rfl
theorem O6:Dh Tryz.prog 102 3 3=true:=by kernel_rfl
theorem Lq:elB Tryz.prog 106 2=true:=by kernel_rfl
theorem Jm:ElemTy Tryz.prog 106 56 2 16:=ElemTy.of (z:=(.agg #[.int .i64 0, .int .i64 0])) Tryz.underlying106 (by kernel_rfl) rfl (by omega)
theorem Pw:sizeB Tryz.prog 135 4=true:=by kernel_rfl
theorem Ky:zeroB Tryz.prog 135 (.agg #[.int .i64 0, .int .i64 0, .int .i64 0, .int .i64 0]):=by unfold zeroB;kernel_rfl
theorem Fa:aggB Tryz.prog 135 4=true:=by kernel_rfl
theorem Ara:Lv Tryz.prog 135 [(0,1),(1,1),(2,1),(3,1)]=true:=by kernel_rfl
theorem Eo:Dh Tryz.prog 135 0 0=true:=by kernel_rfl
theorem Gx:Dh Tryz.prog 135 1 1=true:=by kernel_rfl
theorem Lc:Dh Tryz.prog 135 2 2=true:=by kernel_rfl
theorem Mq:Dh Tryz.prog 135 3 3=true:=by kernel_rfl
theorem Ak8:sizeB Tryz.prog 138 5=true:=by kernel_rfl
theorem Z7:zeroB Tryz.prog 138 (.agg #[.int .i64 0, .int .i64 0, .int .i64 0, .int .i64 0, .bool false]):=by unfold zeroB;kernel_rfl
theorem P6:aggB Tryz.prog 138 5=true:=by kernel_rfl
theorem Y9:Dh Tryz.prog 138 0 0=true:=by kernel_rfl
theorem Sb:Dh Tryz.prog 138 1 3=true:=by kernel_rfl
theorem Aai:sizeB Tryz.prog 140 2=true:=by kernel_rfl
theorem P7:zeroB Tryz.prog 140 (.agg #[.string ⟨#[]⟩, .int .i64 0]):=by unfold zeroB;kernel_rfl
theorem Jp:aggB Tryz.prog 140 2=true:=by kernel_rfl
theorem Aq9:Lv Tryz.prog 140 [(0,1),(1,1)]=true:=by kernel_rfl
theorem Gw:Dh Tryz.prog 140 0 0=true:=by kernel_rfl
theorem Lb:Dh Tryz.prog 140 1 1=true:=by kernel_rfl
theorem Ak7:sizeB Tryz.prog 167 1=true:=by kernel_rfl
theorem Z6:zeroB Tryz.prog 167 (.pointer none):=by unfold zeroB;kernel_rfl
theorem Im:scB Tryz.prog 167=true:=by kernel_rfl
theorem Am6:elB Tryz.prog 177 1=true:=by kernel_rfl
theorem Auq:elB Tryz.prog 180 1=true:=by kernel_rfl
theorem As8:sizeB Tryz.prog 210 7=true:=by kernel_rfl
theorem Z5:zeroB Tryz.prog 210 (.agg #[.int .i64 0, .int .i64 0, .int .i64 0, .int .i64 0, .int .i64 0, .int .i64 0, .int .i64 0]):=by unfold zeroB;kernel_rfl
theorem Asy:aggB Tryz.prog 210 7=true:=by kernel_rfl
theorem Ahe:Callable Tryz.prog 10:=⟨_,Tryz.func10,rfl,by decide⟩
theorem Ahd:Callable Tryz.prog 13:=⟨_,Tryz.func13,rfl,by decide⟩
theorem Ahc:Callable Tryz.prog 14:=⟨_,Tryz.func14,rfl,by decide⟩
theorem Ahb:Callable Tryz.prog 15:=⟨_,Tryz.func15,rfl,by decide⟩
theorem Aha:Callable Tryz.prog 16:=⟨_,Tryz.func16,rfl,by decide⟩
theorem Ag9:Callable Tryz.prog 17:=⟨_,Tryz.func17,rfl,by decide⟩
theorem Ag8:Callable Tryz.prog 18:=⟨_,Tryz.func18,rfl,by decide⟩
theorem Ag7:Callable Tryz.prog 19:=⟨_,Tryz.func19,rfl,by decide⟩
theorem Ag6:Callable Tryz.prog 20:=⟨_,Tryz.func20,rfl,by decide⟩
theorem Ag5:Callable Tryz.prog 22:=⟨_,Tryz.func22,rfl,by decide⟩
theorem Ag4:Callable Tryz.prog 24:=⟨_,Tryz.func24,rfl,by decide⟩
theorem Ag3:Callable Tryz.prog 27:=⟨_,Tryz.func27,rfl,by decide⟩
theorem Ag2:Callable Tryz.prog 28:=⟨_,Tryz.func28,rfl,by decide⟩
theorem Ag1:Callable Tryz.prog 30:=⟨_,Tryz.func30,rfl,by decide⟩
theorem T0:Callable Tryz.prog 32:=⟨_,Tryz.func32,rfl,by decide⟩
theorem Ag0:Callable Tryz.prog 33:=⟨_,Tryz.func33,rfl,by decide⟩
theorem Agz:Callable Tryz.prog 36:=⟨_,Tryz.func36,rfl,by decide⟩
theorem Tz:Callable Tryz.prog 37:=⟨_,Tryz.func37,rfl,by decide⟩
theorem Agy:Callable Tryz.prog 38:=⟨_,Tryz.func38,rfl,by decide⟩
theorem Agx:Callable Tryz.prog 41:=⟨_,Tryz.func41,rfl,by decide⟩
theorem Agw:Callable Tryz.prog 42:=⟨_,Tryz.func42,rfl,by decide⟩
theorem Agv:Callable Tryz.prog 46:=⟨_,Tryz.func46,rfl,by decide⟩
theorem Agu:Callable Tryz.prog 47:=⟨_,Tryz.func47,rfl,by decide⟩
theorem Agt:Callable Tryz.prog 48:=⟨_,Tryz.func48,rfl,by decide⟩
theorem Ags:Callable Tryz.prog 49:=⟨_,Tryz.func49,rfl,by decide⟩
theorem Agr:Callable Tryz.prog 50:=⟨_,Tryz.func50,rfl,by decide⟩
theorem Agq:Callable Tryz.prog 51:=⟨_,Tryz.func51,rfl,by decide⟩
theorem Agp:Callable Tryz.prog 52:=⟨_,Tryz.func52,rfl,by decide⟩
theorem Ago:Callable Tryz.prog 53:=⟨_,Tryz.func53,rfl,by decide⟩
theorem Agn:Callable Tryz.prog 54:=⟨_,Tryz.func54,rfl,by decide⟩
theorem Agm:Callable Tryz.prog 55:=⟨_,Tryz.func55,rfl,by decide⟩
theorem Agl:Callable Tryz.prog 56:=⟨_,Tryz.func56,rfl,by decide⟩
theorem Ty:Callable Tryz.prog 57:=⟨_,Tryz.func57,rfl,by decide⟩
theorem Agk:Callable Tryz.prog 58:=⟨_,Tryz.func58,rfl,by decide⟩
theorem Agj:Callable Tryz.prog 59:=⟨_,Tryz.func59,rfl,by decide⟩
theorem Agi:Callable Tryz.prog 60:=⟨_,Tryz.func60,rfl,by decide⟩
theorem Agh:Callable Tryz.prog 61:=⟨_,Tryz.func61,rfl,by decide⟩
theorem Agg:Callable Tryz.prog 62:=⟨_,Tryz.func62,rfl,by decide⟩
theorem Tx:Callable Tryz.prog 63:=⟨_,Tryz.func63,rfl,by decide⟩
theorem Agf:Callable Tryz.prog 64:=⟨_,Tryz.func64,rfl,by decide⟩
theorem Age:Callable Tryz.prog 65:=⟨_,Tryz.func65,rfl,by decide⟩
theorem Agd:Callable Tryz.prog 68:=⟨_,Tryz.func68,rfl,by decide⟩
theorem Agc:Callable Tryz.prog 69:=⟨_,Tryz.func69,rfl,by decide⟩
theorem Agb:Callable Tryz.prog 70:=⟨_,Tryz.func70,rfl,by decide⟩
theorem Aga:Callable Tryz.prog 71:=⟨_,Tryz.func71,rfl,by decide⟩
theorem Af9:Callable Tryz.prog 72:=⟨_,Tryz.func72,rfl,by decide⟩
theorem Af8:Callable Tryz.prog 73:=⟨_,Tryz.func73,rfl,by decide⟩
theorem Af7:Callable Tryz.prog 74:=⟨_,Tryz.func74,rfl,by decide⟩
theorem Af6:Callable Tryz.prog 75:=⟨_,Tryz.func75,rfl,by decide⟩
theorem Af5:Callable Tryz.prog 76:=⟨_,Tryz.func76,rfl,by decide⟩
theorem Af4:Callable Tryz.prog 77:=⟨_,Tryz.func77,rfl,by decide⟩
theorem Af3:Callable Tryz.prog 78:=⟨_,Tryz.func78,rfl,by decide⟩
theorem Af2:Callable Tryz.prog 79:=⟨_,Tryz.func79,rfl,by decide⟩
theorem Af1:Callable Tryz.prog 80:=⟨_,Tryz.func80,rfl,by decide⟩
theorem Af0:Callable Tryz.prog 81:=⟨_,Tryz.func81,rfl,by decide⟩
theorem Afz:Callable Tryz.prog 82:=⟨_,Tryz.func82,rfl,by decide⟩
theorem Afy:Callable Tryz.prog 83:=⟨_,Tryz.func83,rfl,by decide⟩
theorem Afx:Callable Tryz.prog 84:=⟨_,Tryz.func84,rfl,by decide⟩
theorem Afw:Callable Tryz.prog 86:=⟨_,Tryz.func86,rfl,by decide⟩
theorem Afv:Callable Tryz.prog 87:=⟨_,Tryz.func87,rfl,by decide⟩
theorem Afu:Callable Tryz.prog 88:=⟨_,Tryz.func88,rfl,by decide⟩
theorem Tw:Callable Tryz.prog 89:=⟨_,Tryz.func89,rfl,by decide⟩
theorem Aft:Callable Tryz.prog 90:=⟨_,Tryz.func90,rfl,by decide⟩
theorem Afs:Callable Tryz.prog 91:=⟨_,Tryz.func91,rfl,by decide⟩
theorem Afr:Callable Tryz.prog 93:=⟨_,Tryz.func93,rfl,by decide⟩
theorem Afq:Callable Tryz.prog 94:=⟨_,Tryz.func94,rfl,by decide⟩
theorem Afp:Callable Tryz.prog 95:=⟨_,Tryz.func95,rfl,by decide⟩
theorem Afo:Callable Tryz.prog 96:=⟨_,Tryz.func96,rfl,by decide⟩
theorem Afn:Callable Tryz.prog 97:=⟨_,Tryz.func97,rfl,by decide⟩
theorem Afm:Callable Tryz.prog 98:=⟨_,Tryz.func98,rfl,by decide⟩
theorem Afl:Callable Tryz.prog 99:=⟨_,Tryz.func99,rfl,by decide⟩
theorem Aet:Callable Tryz.prog 100:=⟨_,Tryz.func100,rfl,by decide⟩
theorem Aes:Callable Tryz.prog 101:=⟨_,Tryz.func101,rfl,by decide⟩
theorem Aer:Callable Tryz.prog 102:=⟨_,Tryz.func102,rfl,by decide⟩
theorem Aeq:Callable Tryz.prog 103:=⟨_,Tryz.func103,rfl,by decide⟩
theorem Aep:Callable Tryz.prog 104:=⟨_,Tryz.func104,rfl,by decide⟩
theorem Aeo:Callable Tryz.prog 105:=⟨_,Tryz.func105,rfl,by decide⟩
theorem Aen:Callable Tryz.prog 106:=⟨_,Tryz.func106,rfl,by decide⟩
theorem Aem:Callable Tryz.prog 107:=⟨_,Tryz.func107,rfl,by decide⟩
theorem Ael:Callable Tryz.prog 108:=⟨_,Tryz.func108,rfl,by decide⟩
theorem Aek:Callable Tryz.prog 109:=⟨_,Tryz.func109,rfl,by decide⟩
theorem Aej:Callable Tryz.prog 112:=⟨_,Tryz.func112,rfl,by decide⟩
theorem Aei:Callable Tryz.prog 113:=⟨_,Tryz.func113,rfl,by decide⟩
theorem Aeh:Callable Tryz.prog 114:=⟨_,Tryz.func114,rfl,by decide⟩
theorem Aeg:Callable Tryz.prog 115:=⟨_,Tryz.func115,rfl,by decide⟩
theorem Aef:Callable Tryz.prog 116:=⟨_,Tryz.func116,rfl,by decide⟩
theorem Aee:Callable Tryz.prog 117:=⟨_,Tryz.func117,rfl,by decide⟩
theorem Aed:Callable Tryz.prog 118:=⟨_,Tryz.func118,rfl,by decide⟩
theorem Aec:Callable Tryz.prog 119:=⟨_,Tryz.func119,rfl,by decide⟩
theorem Aeb:Callable Tryz.prog 120:=⟨_,Tryz.func120,rfl,by decide⟩
theorem Aea:Callable Tryz.prog 121:=⟨_,Tryz.func121,rfl,by decide⟩
theorem Ad9:Callable Tryz.prog 122:=⟨_,Tryz.func122,rfl,by decide⟩
theorem Ad8:Callable Tryz.prog 123:=⟨_,Tryz.func123,rfl,by decide⟩
theorem Ad7:Callable Tryz.prog 124:=⟨_,Tryz.func124,rfl,by decide⟩
theorem Ad6:Callable Tryz.prog 125:=⟨_,Tryz.func125,rfl,by decide⟩
theorem Ad5:Callable Tryz.prog 126:=⟨_,Tryz.func126,rfl,by decide⟩
theorem Ad4:Callable Tryz.prog 127:=⟨_,Tryz.func127,rfl,by decide⟩
theorem Ad3:Callable Tryz.prog 128:=⟨_,Tryz.func128,rfl,by decide⟩
theorem Ad2:Callable Tryz.prog 129:=⟨_,Tryz.func129,rfl,by decide⟩
theorem Sh:Callable Tryz.prog 130:=⟨_,Tryz.func130,rfl,by decide⟩
theorem Ad1:Callable Tryz.prog 131:=⟨_,Tryz.func131,rfl,by decide⟩
theorem Ad0:Callable Tryz.prog 132:=⟨_,Tryz.func132,rfl,by decide⟩
theorem Adz:Callable Tryz.prog 133:=⟨_,Tryz.func133,rfl,by decide⟩
theorem Ady:Callable Tryz.prog 134:=⟨_,Tryz.func134,rfl,by decide⟩
theorem Adx:Callable Tryz.prog 135:=⟨_,Tryz.func135,rfl,by decide⟩
theorem Adw:Callable Tryz.prog 136:=⟨_,Tryz.func136,rfl,by decide⟩
theorem Adv:Callable Tryz.prog 137:=⟨_,Tryz.func137,rfl,by decide⟩
theorem Adu:Callable Tryz.prog 138:=⟨_,Tryz.func138,rfl,by decide⟩
theorem Adt:Callable Tryz.prog 139:=⟨_,Tryz.func139,rfl,by decide⟩
theorem Ads:Callable Tryz.prog 140:=⟨_,Tryz.func140,rfl,by decide⟩
theorem Adr:Callable Tryz.prog 141:=⟨_,Tryz.func141,rfl,by decide⟩
theorem Adq:Callable Tryz.prog 142:=⟨_,Tryz.func142,rfl,by decide⟩
theorem Adp:Callable Tryz.prog 143:=⟨_,Tryz.func143,rfl,by decide⟩
theorem Ado:Callable Tryz.prog 144:=⟨_,Tryz.func144,rfl,by decide⟩
theorem Adn:Callable Tryz.prog 145:=⟨_,Tryz.func145,rfl,by decide⟩
theorem Adm:Callable Tryz.prog 146:=⟨_,Tryz.func146,rfl,by decide⟩
theorem Adl:Callable Tryz.prog 147:=⟨_,Tryz.func147,rfl,by decide⟩
theorem Adk:Callable Tryz.prog 148:=⟨_,Tryz.func148,rfl,by decide⟩
theorem Adj:Callable Tryz.prog 149:=⟨_,Tryz.func149,rfl,by decide⟩
theorem Adi:Callable Tryz.prog 150:=⟨_,Tryz.func150,rfl,by decide⟩
theorem Adh:Callable Tryz.prog 151:=⟨_,Tryz.func151,rfl,by decide⟩
theorem Adg:Callable Tryz.prog 152:=⟨_,Tryz.func152,rfl,by decide⟩
theorem Adf:Callable Tryz.prog 153:=⟨_,Tryz.func153,rfl,by decide⟩
theorem Ade:Callable Tryz.prog 154:=⟨_,Tryz.func154,rfl,by decide⟩
theorem Add:Callable Tryz.prog 155:=⟨_,Tryz.func155,rfl,by decide⟩
theorem Adc:Callable Tryz.prog 156:=⟨_,Tryz.func156,rfl,by decide⟩
theorem Adb:Callable Tryz.prog 157:=⟨_,Tryz.func157,rfl,by decide⟩
theorem Ada:Callable Tryz.prog 158:=⟨_,Tryz.func158,rfl,by decide⟩
theorem Ac9:Callable Tryz.prog 159:=⟨_,Tryz.func159,rfl,by decide⟩
theorem Ac8:Callable Tryz.prog 160:=⟨_,Tryz.func160,rfl,by decide⟩
theorem Ac7:Callable Tryz.prog 161:=⟨_,Tryz.func161,rfl,by decide⟩
theorem Ac6:Callable Tryz.prog 162:=⟨_,Tryz.func162,rfl,by decide⟩
theorem Ac5:Callable Tryz.prog 163:=⟨_,Tryz.func163,rfl,by decide⟩
theorem Ac4:Callable Tryz.prog 164:=⟨_,Tryz.func164,rfl,by decide⟩
theorem Sg:Callable Tryz.prog 165:=⟨_,Tryz.func165,rfl,by decide⟩
theorem Ac3:Callable Tryz.prog 166:=⟨_,Tryz.func166,rfl,by decide⟩
theorem Ac2:Callable Tryz.prog 167:=⟨_,Tryz.func167,rfl,by decide⟩
theorem Ac1:Callable Tryz.prog 168:=⟨_,Tryz.func168,rfl,by decide⟩
theorem Ac0:Callable Tryz.prog 170:=⟨_,Tryz.func170,rfl,by decide⟩
theorem Acz:Callable Tryz.prog 171:=⟨_,Tryz.func171,rfl,by decide⟩
theorem Acy:Callable Tryz.prog 172:=⟨_,Tryz.func172,rfl,by decide⟩
theorem Acx:Callable Tryz.prog 173:=⟨_,Tryz.func173,rfl,by decide⟩
theorem Acw:Callable Tryz.prog 174:=⟨_,Tryz.func174,rfl,by decide⟩
theorem Acv:Callable Tryz.prog 175:=⟨_,Tryz.func175,rfl,by decide⟩
theorem Acu:Callable Tryz.prog 176:=⟨_,Tryz.func176,rfl,by decide⟩
theorem Acs:Callable Tryz.prog 177:=⟨_,Tryz.func177,rfl,by decide⟩
theorem Acr:Callable Tryz.prog 178:=⟨_,Tryz.func178,rfl,by decide⟩
theorem Acq:Callable Tryz.prog 179:=⟨_,Tryz.func179,rfl,by decide⟩
theorem Acp:Callable Tryz.prog 180:=⟨_,Tryz.func180,rfl,by decide⟩
theorem Aco:Callable Tryz.prog 181:=⟨_,Tryz.func181,rfl,by decide⟩
theorem Acn:Callable Tryz.prog 183:=⟨_,Tryz.func183,rfl,by decide⟩
theorem Acm:Callable Tryz.prog 184:=⟨_,Tryz.func184,rfl,by decide⟩
theorem Acl:Callable Tryz.prog 185:=⟨_,Tryz.func185,rfl,by decide⟩
theorem Ack:Callable Tryz.prog 186:=⟨_,Tryz.func186,rfl,by decide⟩
theorem Acj:Callable Tryz.prog 187:=⟨_,Tryz.func187,rfl,by decide⟩
theorem Aci:Callable Tryz.prog 188:=⟨_,Tryz.func188,rfl,by decide⟩
theorem Ach:Callable Tryz.prog 189:=⟨_,Tryz.func189,rfl,by decide⟩
theorem Acg:Callable Tryz.prog 190:=⟨_,Tryz.func190,rfl,by decide⟩
theorem Acf:Callable Tryz.prog 191:=⟨_,Tryz.func191,rfl,by decide⟩
theorem Ace:Callable Tryz.prog 192:=⟨_,Tryz.func192,rfl,by decide⟩
end Go.Proofs.YtcihalbakenleaaGreat
namespace Go.Proofs.YtcihalbakenleaaGreat
open Go.RowKit
section
variable {P:Program} {n:Nat} {ops:Array Oper} {rest:List Oper} {K:Ee} {f:Fr} {h:Xh} {o:Oper} {e:Operand→S} {α:Type}
theorem XL.len {t el:TypeId} {x:Operand} {sz:Nat} {g:α→List D} {l:List α} (ho:o.op= .call {callee:= .builtin .len,args:= #[x],argTypes:= #[t]}) (hw:Ct ops f n o.guard=some true) (hx:ev f x= .d (.sl sz (l.map g))) (hu:P.underlying t=some (.slice el))
  (hr:l.length≤9223372036854775807→XL P n ops rest K (B9 f o.dst (.d (.v (.int .i64 (l.length:Nat))))) h):XL P n ops (o::rest) K f h:=by
 refine XL.stepR (f':=f) (h':=h) (R:=fun s=>s= .d (.v (.int .i64 (l.length:Nat)))∧l.length≤9223372036854775807) hw (fun E H β a w hs hf hop=> ?_) (by rintro s ⟨rfl,h⟩;exact hr h)
 have g1:=hop x (by rw [ho];simp [Op.operands,Call.operands])
 rw [hx] at g1
 obtain ⟨A,c,h1,h2,h3,_⟩:=So (Ex g1)
 have hrun:=S1 (P:=P) ho hu h1 w
 unfold Oper.wp
 rw [hrun]
 rw [List.length_map] at h2
 exact ⟨H,β,_,_,rfl,hs,hf, .d (.v _),by rw [List.length_map],by unfold maxLen at h3;omega⟩
theorem Qr {t m sz:Nat} {el:TypeId} {parts:Array (Nat × Operand)} {z:Value} {r:List S} (ho:o.op= .build t parts) (hu:P.underlying t=some (.array m el)) (hs:sizeB P el sz=true) (hz:zeroB P t z) (hr:O7 h (fun i=>some (i*sz,sz)) e (z.cells.toList.map fun x=> .d (.v x)) parts.toList=some r):
  Bv P o e h (.agg r):=fun E H β ρ w hsim hop=>by
 have hc0 : CellsAt H β z.cells (z.cells.toList.map fun x => .d (.v x)) := ⟨by simp, fun j v s hj hs' => by
  rw [List.getElem?_map,Array.getElem?_toList,hj] at hs'
  cases hs'
  exact .d (.v _)⟩
 obtain ⟨ys,y1,y2⟩:=Ms hsim (ρ:=ρ) parts.toList _ r z.cells hc0 (fun x hx=>hop x (by rw [ho];simpa [Op.operands] using hx)) hr
 refine ⟨.agg ys, ?_, .agg ys r y2.1 y2.2⟩
 have hfl:(parts.map fun (i,x)=>(i,ρ x)).toList=parts.toList.map fun (i,x)=>(i,ρ x):=by simp
 unfold execOp
 simp only [ho,Instr.build,Sem.run_bind,zeroB.run hz,Result.andThen_ok,run_underlying hu,sizeB.run hs,hfl,y1,Sem.run_pure]
theorem Ym {t m k:Nat} {x y:Operand} {l:List D} {d:D} {el:TypeId} {ik:IntKind} {a:Int} (ho:o.op= .index t x y) (hx:e x= .d (.agg l)) (hy:e y= .d (.v (.int ik a))) (ha:a=(k:Int)) (hu:P.underlying t=some (.array m el)) (hs:scB P el=true) (h1:sizeB P el 1=true) (hk:k<m) (hd:l[k]? =some d):Bv P o e h (.d d):=by
 subst ha;exact Aon ho hx hy hu hs h1 hk hd
theorem Atz {t el:TypeId} {x:Operand} {sz:Nat} {g:α→List D} {l:List α} (ho:o.op= .call {callee:= .builtin .len,args:= #[x],argTypes:= #[t]}) (hx:e x= .d (.sl sz (l.map g))) (hu:P.underlying t=some (.slice el)):Bv P o e h (.d (.v (.int .i64 (l.length:Nat)))):=by
 have:=Avl (P:=P) (h:=h) ho hx hu
 rwa [List.length_map] at this
theorem Cf {t el:TypeId} {x:Operand} {i sz:Nat} {ty:TypeId} {g:α→List D} {l:List α} (ho:o.op= .call {callee:= .builtin .len,args:= #[x],argTypes:= #[t]}) (hx:e x= .own i) (hi:h i=some (.row ty sz (l.map g))) (hu:P.underlying t=some (.slice el)):Bv P o e h (.d (.v (.int .i64 (l.length:Nat)))):=by
 have:=Mm (P:=P) ho hx hi hu
 rwa [List.length_map] at this
theorem Am {t sz:Nat} {x y:Operand} {g:α→List D} {l:List α} {a:α} {k:Nat} {ik:IntKind} (ho:o.op= .indexAddr t x y) (hx:e x= .d (.sl sz (l.map g))) (hy:e y= .d (.v (.int ik k))) (hf:elB P t sz=true) (hk:l[k]? =some a):Bv P o e h (.d (.pt (g a))):=
 Aoo ho hx hy hf (by rw [List.getElem?_map,hk];rfl)
theorem Ll {t sz:Nat} {x y:Operand} {i k:Nat} {ik:IntKind} {ty:TypeId} {g:α→List D} {l:List α} (ho:o.op= .indexAddr t x y) (hx:e x= .own i) (hy:e y= .d (.v (.int ik k))) (hi:h i=some (.row ty sz (l.map g))) (hf:elB P t sz=true) (hk:k<l.length):Bv P o e h (.ptr i k 0):=
 Al4 ho hx hy hi hf (by rw [List.length_map];exact hk)
theorem Gt {t sz:Nat} {x y:Operand} {g:α→List D} {l:List α} {b:α} {k:Nat} {ik:IntKind} {a:Int} (ho:o.op= .indexAddr t x y) (hx:e x= .d (.sl sz (l.map g))) (hy:e y= .d (.v (.int ik a))) (ha:a=(k:Int)) (hf:elB P t sz=true) (hk:l[k]? =some b):Bv P o e h (.d (.pt (g b))):=by
 subst ha;exact Am ho hx hy hf hk
theorem Cr {t sz:Nat} {x y:Operand} {i k:Nat} {ik:IntKind} {a:Int} {ty:TypeId} {g:α→List D} {l:List α} (ho:o.op= .indexAddr t x y) (hx:e x= .own i) (hy:e y= .d (.v (.int ik a))) (ha:a=(k:Int)) (hi:h i=some (.row ty sz (l.map g))) (hf:elB P t sz=true) (hk:k<l.length):Bv P o e h (.ptr i k 0):=by
 subst ha;exact Ll ho hx hy hi hf hk
theorem En {t sz:Nat} {x:Operand} {lo hi:Option Operand} {g:α→List D} {l:List α} {a b:Nat} (ho:o.op= .slice t x lo hi none) (hx:e x= .d (.sl sz (l.map g))) (hf:elB P t sz=true)
  (hlo:Bd e lo 0 a) (hhi:Bd e hi l.length b) (hab:a≤b) (hb:b≤l.length):Bv P o e h (.d (.sl sz (((l.take b).drop a).map g))):=by
 have:=Arx (P:=P) (h:=h) ho hx hf hlo (b:=b) (by rw [List.length_map];exact hhi) hab (by rw [List.length_map];exact hb)
 rwa [←List.map_take, ←List.map_drop] at this
theorem Xc {g:α→List D} {l l':List α}:l.map g++l'.map g=(l++l').map g:=by rw [List.map_append]
end
def ChK (P:Program) (n:Nat) (ops:Array Oper) (rest:List Oper) (f:Fr) (h:Xh) (acc:List (List Nat × S)) (G:List (List Nat × S)→Fr→Xh→Prop):Prop:=∃L f' h',Ch P n ops rest f h L f' h'∧G (acc++L) f' h'
section
variable {P:Program} {n:Nat} {ops:Array Oper} {rest:List Oper} {f:Fr} {h h1:Xh} {o:Oper} {s:S} {ids:List Nat} {acc:List (List Nat × S)} {G:List (List Nat × S)→Fr→Xh→Prop}
theorem ChK.nil (hg:G acc f h):ChK P n ops [] f h acc G:=⟨[],f,h, .nil _ _,by rw [List.append_nil];exact hg⟩
theorem ChK.cons (hw:Ct ops f n o.guard=some true) (hc:CStep P o f h ids s h1) (hr:ChK P n ops rest (B9 f o.dst s) h1 (acc++ [(ids,s)]) G):ChK P n ops (o::rest) f h acc G:=by
 obtain ⟨L,f',h',k1,k2⟩:=hr
 exact ⟨(ids,s)::L,f',h', .cons hw hc k1,by rw [List.append_assoc] at k2;exact k2⟩
theorem ChK.skip (hw:Ct ops f n o.guard=some false) (hr:ChK P n ops rest (B9 f o.dst (.d (.v undef))) h (acc++ [([], .d (.v undef))]) G):ChK P n ops (o::rest) f h acc G:=by
 obtain ⟨L,f',h',k1,k2⟩:=hr
 exact ⟨_::L,f',h', .skip hw k1,by rw [List.append_assoc] at k2;exact k2⟩
theorem Bk {id:Nat} {l:List Oper} {K:Ee} (sites:List Nat) (hm:P.follows .mixedOrders=true) (hin:l.all (inN n)=true) (hreg:Mv l.toArray l=true) (hnd:sites.Nodup)
  (hc:ChK P n l.toArray l (Fn f sites) (F5 h sites) [] (fun L f' h'=>L.flatMap (·.1)=sites∧K .normal f' h')):XW P n (.region id l.toArray true) K f h:=by
 obtain ⟨L,f',h',k1,k2,k3⟩:=hc
 exact Aqs sites hm hin hreg k1 k2 hnd k3
end
theorem D5 {e:TypeId} {sz:Nat} {α:Type} {g:α→List D} {l l':List α} {a:α} {ds:List D} (hd:ds=g a) (hl:l'=l++ [a]):some (XO.row e sz (l.map g++ [ds]))=some (XO.row e sz (l'.map g)):=by rw [hl,hd,List.map_append];rfl
theorem Fs {e:TypeId} {sz:Nat} {α:Type} {g:α→List D} {l l' m:List α} (hl:l'=l++m):some (XO.row e sz (l.map g++m.map g))=some (XO.row e sz (l'.map g)):=by rw [hl,List.map_append]
theorem Bo {α:Type} {l:List α} {k:Nat} {x:α} (h:l[k]? =some x):l.take (k+1)=l.take k++ [x]:=by rw [List.take_add_one,h,Option.toList_some]
theorem rI {a b:Int} (h:a=b):D.v (.int .i64 a)= .v (.int .i64 b):=by rw [h]
theorem rB {a b:Bool} (h:a=b):D.v (.bool a)= .v (.bool b):=by rw [h]
theorem sI {a b:Int} (h:a=b):S.d (.v (.int .i64 a))= .d (.v (.int .i64 b)):=by rw [h]
theorem sB {a b:Bool} (h:a=b):S.d (.v (.bool a))= .d (.v (.bool b)):=by rw [h]
theorem r2 {a b a' b':D} (h:a=a') (h':b=b'):D.tup [a,b]= .tup [a',b']:=by rw [h,h']
theorem r3 {a b c a' b' c':D} (h:a=a') (h':b=b') (h'':c=c'):D.tup [a,b,c]= .tup [a',b',c']:=by rw [h,h',h'']
theorem rSl {sz:Nat} {α:Type} {g:α→List D} {l l':List α} (h:l=l'):D.sl sz (l.map g)= .sl sz (l'.map g):=by rw [h]
theorem Pi {e:TypeId} {sz:Nat} {α:Type} {g:α→List D} {l l':List α} (h:l=l'):some (XO.row e sz (l.map g))=some (XO.row e sz (l'.map g)):=by rw [h]
end Go.Proofs.YtcihalbakenleaaGreat
namespace Go.Proofs.YtcihalbakenleaaGreat
open Go.RowKit
mutual
inductive DSub:D→D→Prop where
  |same {d d':D} (h:d=d'):DSub d d'
  |nil (sz:Nat):DSub (.v (.slice none 0 0)) (.sl sz [])
  |agg {l l':List D} (h:DSubL l l'):DSub (.agg l) (.agg l')
inductive DSubL:List D→List D→Prop where
  |nil:DSubL [] []
  |cons {d d':D} {l l':List D} (h:DSub d d') (hl:DSubL l l'):DSubL (d::l) (d'::l')
end
theorem DSubL.length:∀{l l':List D},DSubL l l'→l.length=l'.length
  |_,_, .nil=>rfl
  |_,_, .cons _ hl=>by simp [hl.length]
theorem DSubL.get:∀{l l':List D},DSubL l l'→∀{i:Nat} {d':D},l'[i]? =some d'→∃d,l[i]? =some d∧DSub d d'
  |_,_, .cons h _,0,_,e=>by simp at e;subst e;exact ⟨_,rfl,h⟩
  |_,_, .cons _ hl,i+1,d',e=>by
    obtain ⟨d,h1,h2⟩:=hl.get (i:=i) (d':=d') (by simpa using e)
    exact ⟨d,by simpa using h1,h2⟩
mutual
theorem DSub.vd:∀{d d':D},DSub d d'→∀{H:Hp} {u:Value},VD H u d→VD H u d'
  |_,_, .same h,_,_,hv=>by subst h;exact hv
  |_,_, .nil sz,_,_,hv=>by rw [T3 hv];exact .emp none 0 sz (fun _=>rfl) (Nat.zero_le _)
  |_,_, .agg h,H,u,hv=>by
    obtain ⟨cs,rfl,h1,h2⟩:=U9 hv
    refine .agg cs _ (h1.trans h.length) fun i x d' hx hd=> ?_
    exact DSubL.vd h hd fun d hd'=>h2 i x d hx hd'
theorem DSubL.vd:∀{l l':List D},DSubL l l'→∀{i:Nat} {d':D},l'[i]? =some d'→∀{H:Hp} {x:Value},(∀d,l[i]? =some d→VD H x d)→VD H x d'
  |_,_, .cons h _,0,_,e,_,_,hv=>by simp at e;subst e;exact h.vd (hv _ rfl)
  |_,_, .cons _ hl,i+1,d',e,_,_,hv=>DSubL.vd hl (i:=i) (by simpa using e) fun d hd=>hv d (by simpa using hd)
end
theorem RV.sub {P:Program} {n:Nat} {f:Fr} {h:Xh} {rv:ResultVar} {d d':D} (hr:RV P n f h rv d) (hs:DSub d d'):RV P n f h rv d':=fun E H β a w h1 h2=>by
  obtain ⟨u,e,v⟩:=hr E H β a w h1 h2
  exact ⟨u,e,hs.vd v⟩
inductive AS (f:Fr):List Operand→List D→Prop where
  |nil:AS f [] []
  |cons {x:Operand} {l:List Operand} {d d':D} {ds:List D} (hx:ev f x= .d d) (hs:DSub d d') (hl:AS f l ds):AS f (x::l) (d'::ds)
theorem AS.len {f:Fr} {l:List Operand} {ds:List D} (h:AS f l ds):l.length=ds.length:=by
  induction h with
  |nil=>rfl
  |cons _ _ _ ih=>simp [ih]
theorem AS.get {f:Fr} {l:List Operand} {ds:List D} (h:AS f l ds):∀{i:Nat} {x:Operand} {d:D},l[i]? =some x→ds[i]? =some d→∃d0,ev f x= .d d0∧DSub d0 d:=by
  induction h with
  |nil=>intro i x d h;simp at h
  | @cons x l d d' ds hx hs _ ih=>
    intro i y e h1 h2
    cases i with
    |zero=>simp at h1 h2;subst h1 h2;exact ⟨d,hx,hs⟩
    |succ i=>exact ih (by simpa using h1) (by simpa using h2)
theorem AS.vd {f:Fr} {H:Hp} {β:Bt} {a:Act} {args:Array Operand} {ds:List D} (ha:AS f args.toList ds) (hv:∀x∈args,VS H β (a.eval x) (ev f x)):
    (args.map a.eval).size=ds.length∧∀(i:Nat) (x:Value) (d:D),(args.map a.eval)[i]? =some x→ds[i]? =some d→VD H x d:=by
  have hl:=ha.len
  rw [Array.length_toList] at hl
  refine ⟨by simpa using hl,fun i x d hx hd=> ?_⟩
  have hi:i<args.size:=by have:=(List.getElem?_eq_some_iff.1 hd).1;omega
  have hx':x=a.eval args[i]:=by
    rw [Array.getElem?_map,Array.getElem?_eq_getElem hi] at hx
    simpa using hx.symm
  obtain ⟨d0,h1,h2⟩:=ha.get (i:=i) (x:=args[i]) (by rw [Array.getElem?_toList,Array.getElem?_eq_getElem hi]) hd
  have:=hv args[i] (Array.getElem_mem hi)
  rw [h1] at this
  rw [hx']
  exact h2.vd (Ex this)
section
variable {P:Program} {n:Nat} {ops:Array Oper} {rest:List Oper} {K:Ee} {f:Fr} {h:Xh} {o:Oper} {F:FuncId} {ds:List D} {args:Array Operand} {tys:Array TypeId} {r:D}
theorem XL.calls (ho:o.op= .call {callee:= .value (.func F),args:=args,argTypes:=tys}) (hw:Ct ops f n o.guard=some true) (hx:XC P F ds (fun d=>d=r))
    (ha:AS f args.toList ds) (hr:XL P n ops rest K (B9 f o.dst (.d r)) h):XL P n ops (o::rest) K f h:=by
  refine XL.stepR (f':=f) (h':=h) (R:=fun s=>s= .d r) hw (fun E H β a w hs hf hop=> ?_) (by rintro s rfl;exact hr)
  have hop':∀x∈args,VS H β (a.eval x) (ev f x):=fun x hx=>hop x (by rw [ho];simp [Op.operands,Call.operands,hx])
  obtain ⟨hsz,hvd⟩:=ha.vd hop'
  have hrun:(execOp a.eval o).run P w= .ok (.enter F (args.map a.eval)) w:=by
    have:=hx.callable.run (args.map a.eval) w
    unfold execOp
    simp only [ho,resolve,Act.eval,Deferred.ofValue,Sem.run_bind,Sem.run_pure,Result.andThen_ok,invoke,Array.append_empty,Array.empty_append]
    exact this
  unfold Oper.wp
  rw [hrun]
  refine (hx.calls H w _ hs.imm hsz hvd).mono ?_
  rintro e w' ⟨H',u,r',rfl,rfl,hle,hnew,him,hb,hu⟩
  exact ⟨H',β,u, .d r',rfl,hs.call hb hle hnew him,hf.mono hle (fun _ _ h=>h), .d hu,rfl⟩
theorem CStep.calls (ho:o.op= .call {callee:= .value (.func F),args:=args,argTypes:=tys}) (hx:XC P F ds (fun d=>d=r)) (ha:AS f args.toList ds):CStep P o f h [] (.d r) h:=
  ⟨HLe.refl _, fun _ _ e => .inl e, fun hF hle E H β a w hs _ hop => by
    have hop':∀x∈args,VS H β (a.eval x) (ev f x):=fun x hx=>hop x (by rw [ho];simp [Op.operands,Call.operands,hx])
    obtain ⟨hsz,hvd⟩:=ha.vd hop'
    have hrun:(execOp a.eval o).run P w= .ok (.enter F (args.map a.eval)) w:=by
      have:=hx.callable.run (args.map a.eval) w
      unfold execOp
      simp only [ho,resolve,Act.eval,Deferred.ofValue,Sem.run_bind,Sem.run_pure,Result.andThen_ok,invoke,Array.append_empty,Array.empty_append]
      exact this
    unfold Oper.wp
    rw [hrun]
    refine (hx.calls H w _ hs.imm hsz hvd).mono ?_
    rintro e w' ⟨H',u,r',rfl,rfl,hle',hnew,him,hb,hu⟩
    exact ⟨H', β, u, rfl, hs.call hb hle' hnew him, hle', fun _ _ h => h, fun _ _ => rfl, .d hu⟩⟩
theorem OKo.sub {base:Nat} {w:World} {H:Hp} {β:Bt} {L:Loc} {e:TypeId} {sz:Nat} {l l':List (List D)} (hk:OKo base w H β L (.row e sz l)) (hl:l.length=l'.length) (hs:∀(k:Nat) (x x':List D),l[k]? =some x→l'[k]? =some x'→DSubL x x'):OKo base w H β L (.row e sz l'):=by
  obtain ⟨h0,hz,hv,us,h2,h3,h4⟩:=hk
  have hget:∀(k:Nat) (x':List D),l'[k]? =some x'→∃x,l[k]? =some x∧DSubL x x':=fun k x' hx'=>by
    have hk:k<l.length:=by rw [hl];exact (List.getElem?_eq_some_iff.1 hx').1
    exact ⟨_,List.getElem?_eq_getElem hk,hs k _ x' (List.getElem?_eq_getElem hk) hx'⟩
  refine ⟨h0,fun x' hx'=> ?_,hv,us,by rw [←hl];exact h2,h3,fun k j x' d' hx' hd'=> ?_⟩
  · obtain ⟨k,hk⟩:=List.getElem?_of_mem hx'
    obtain ⟨x,h1,h2⟩:=hget k x' hk
    rw [←h2.length]
    exact hz x (List.mem_of_getElem? h1)
  · obtain ⟨x,h1,h2⟩:=hget k x' hx'
    obtain ⟨d,h5,h6⟩:=h2.get hd'
    obtain ⟨u,h7,h8⟩:=h4 k j x d h1 h5
    exact ⟨u,h7,h6.vd h8⟩
theorem Sim.rowsub {E:Env} {H:Hp} {β:Bt} {w:World} (s:Sim E H β h w) {i:Nat} {e:TypeId} {sz:Nat} {l l':List (List D)} (hi:h i=some (.row e sz l)) (hl:l.length=l'.length) (hs:∀(k:Nat) (x x':List D),l[k]? =some x→l'[k]? =some x'→DSubL x x'):
    Sim E H β (h.set i (.row e sz l')) w:=by
  have aux:∀j o L,h.set i (.row e sz l') j=some o→β j=some L→∃o',h j=some o'∧o.blk L=o'.blk L∧(OKo E.w.heap.size w H β L o'→OKo E.w.heap.size w H β L o):=by
    intro j o L ho hL
    by_cases e':i=j
    · subst e'
      rw [Xh.set_same] at ho
      cases ho
      exact ⟨_,hi,rfl,fun hk=>hk.sub hl hs⟩
    · rw [Xh.set_ne _ _ e'] at ho
      exact ⟨o,ho,rfl,fun hk=>hk⟩
  refine ⟨s.below,s.ext,s.new,s.imm,fun j o L ho hL=> ?_,fun j o L ho hL b hb=> ?_,fun j j' o o' L L' b hjj ho ho' hL hL' hb=> ?_,fun j o ho hg=> ?_⟩
  rotate_left 3
  · by_cases e':i=j
    · subst e';rw [Xh.set_same] at ho;cases ho;cases hg
    · rw [Xh.set_ne _ _ e'] at ho;exact s.dom j o ho hg
  · obtain ⟨o',h1,_,h3⟩:=aux j o L ho hL
    exact h3 (s.obj j o' L h1 hL)
  · obtain ⟨o',h1,h2,_⟩:=aux j o L ho hL
    rw [h2] at hb
    exact s.sep j o' L h1 hL b hb
  · obtain ⟨o1,h1,h2,_⟩:=aux j o L ho hL
    obtain ⟨o2,h3,h4,_⟩:=aux j' o' L' ho' hL'
    rw [h2] at hb
    rw [h4]
    exact s.inj j j' o1 o2 L L' b hjj h1 h3 hL hL' hb
theorem XL.row1 {i:Nat} {e:TypeId} {sz:Nat} {x x':List D} (hi:h i=some (.row e sz [x])) (hs:DSubL x x') (hr:XL P n ops rest K f (h.set i (.row e sz [x']))):XL P n ops rest K f h:=fun hin E H β a w h1 h2=>
  hr hin E H β a w (h1.rowsub hi rfl fun k y y' e1 e2 => by
    match k with
    |0=>simp at e1 e2;subst e1 e2;exact hs
    | k + 1 => simp at e1) h2
end
theorem Vk {P:Program} {o:Oper} {f:Fr} {h:Xh} {E:Env} {H:Hp} {β:Bt} {a:Act} {w:World} {t ty:TypeId} {sz len:Nat} {parts:Array (Nat × Operand)} {z:Value} {l:List (List D)} (ho:o.op= .buildSlice t len parts) (hu:P.underlying t=some (.slice ty)) (hsz:sizeB P ty sz=true) (hz:zeroB P ty z)
    (hr:Hn h (ev f) sz parts.toList=some l) (hlen:parts.toList.map (·.1)=List.range len) (hpos:0<sz) (hmax:len*sz≤16777216) {hF:Xh} (hle:HLe h hF) (hs:Sim E H β hF w) (hop:∀x∈o.op.operands,VS H β (a.eval x) (ev f x)):
    ∃(u:Value) (H':Hp) (w':World),(execOp a.eval o).run P w= .ok (.value u) w'∧Sim E H' β hF w'∧H.le H'∧VD H' u (.sl sz l):=by
  have hpl:parts.toList.length=len:=by have:=congrArg List.length hlen;simpa using this
  have hcells0:CellsAt H β ((Array.range (len*sz)).map (z.cells[· % z.cells.size]!)) ((List.range (len*sz)).map fun j=> .d (.v (z.cells[j % z.cells.size]!))):=by
    refine ⟨by simp,fun j v s hj hs'=> ?_⟩
    rw [List.getElem?_map] at hs'
    rw [Array.getElem?_map] at hj
    by_cases hlt:j<len*sz
    · rw [List.getElem?_range hlt] at hs'
      have:(Array.range (len*sz))[j]? =some j:=by simp [hlt]
      rw [this] at hj
      cases hj;cases hs'
      exact .d (.v _)
    · rw [List.getElem?_eq_none (by simpa using hlt)] at hs';cases hs'
  have mono:∀(ps:List (Nat × Operand)) (l:List (List D)),Hn h (ev f) sz ps=some l→Hn hF (ev f) sz ps=some l:=by
    intro ps
    induction ps with
    |nil=>intro l h;exact h
    |cons q ps ih=>
      obtain ⟨i,x⟩:=q
      intro l hl
      unfold Hn at hl ⊢
      cases hc:Fp h (ev f x) with
      |none=>rw [hc] at hl;cases hl
      |some cs=>
        rw [hc] at hl
        rw [Tv hle hc]
        simp only at hl ⊢
        cases hd:Km cs with
        |none=>rw [hd] at hl;cases hl
        |some ds=>
          rw [hd] at hl
          simp only at hl ⊢
          cases hr:Hn h (ev f) sz ps with
          |none=>rw [hr] at hl;cases hl
          |some l'=>rw [hr] at hl;rw [ih l' hr];exact hl
  have hr':=mono _ _ hr
  obtain ⟨r1,r2,r3⟩:=Pj parts.toList l 0 ((List.range (len*sz)).map fun j=>S.d (.v (z.cells[j % z.cells.size]!))) hr' (by rw [hlen,hpl,List.range_eq_range']) (by simp [hpl])
  obtain ⟨ys,y1,y2⟩:=Ms hs (ρ:=a.eval) parts.toList _ _ _ hcells0 (fun x hx=>hop x (by rw [ho];simpa [Op.operands] using hx)) r3
  have hll:l.length=len:=by rw [r2,hpl]
  rw [Nat.zero_mul,List.take_zero,List.nil_append] at y2
  have hysz:ys.size=len*sz:=by rw [y2.1,List.length_map,Gl r1,hll]
  have hrun:(execOp a.eval o).run P w= .ok (.value (.slice (some ⟨w.heap.size,0,none⟩) l.length len)) (w.alloc (.cells ys ty)):=by
    have hfl:(parts.map fun (i,x)=>(i,a.eval x)).toList=parts.toList.map fun (i,x)=>(i,a.eval x):=by simp
    unfold execOp
    simp only [ho,Instr.buildSlice,Sem.run_bind,run_underlying hu,Result.andThen_ok,sizeB.run hsz,show ¬len*sz>2 ^ 24 by omega,if_false,Sem.run_pure]
    by_cases h0:len*sz=0
    · have hl0:len=0:=by
        rcases Nat.mul_eq_zero.1 h0 with h|h
        · exact h
        · omega
      subst hl0
      have hp0:parts.toList= []:=List.eq_nil_of_length_eq_zero hpl
      have hys:ys= #[]:=Array.eq_empty_of_size_eq_zero (by rw [hysz];simp)
      simp only [h0,if_true,Sem.run_pure,Result.andThen_ok,hfl,hp0,List.map_nil,Instr.fill,newRow,Sem.run_bind,run_newObj,World.alloc_eq,hll,hys,Aaw]
    · simp only [h0,if_false,Sem.run_bind,zeroB.run hz,Result.andThen_ok,Sem.run_pure,hfl,y1,newRow,run_newObj,World.alloc_eq,hll]
  have hone:∀u∈ys,u.oneCell'=true:=fun u hu=>by
    obtain ⟨j,hj⟩:=Array.getElem?_of_mem hu
    have hjl:=(Array.getElem?_eq_some_iff.1 hj).1
    have hd:∃d,l.flatten[j]? =some d:=⟨_,List.getElem?_eq_getElem (by rw [Gl r1,hll, ←hysz];exact hjl)⟩
    obtain ⟨d,hd⟩:=hd
    have:=y2.2 j u (.d d) hj (by rw [List.getElem?_map,hd];rfl)
    exact U8 (Ex this) (Uc hr' d (List.mem_of_getElem? hd))
  have hnone:∀off,H w.heap.size off=none:=fun off=>by
    cases e:H w.heap.size off with
    |none=>rfl
    |some u=>have:=hs.imm.lt e;omega
  have hbel:Below w.heap.size w (w.alloc (.cells ys ty)):=(Below.refl _ _).alloc (Nat.le_refl _) _
  have him:Imm (H.plus w.heap.size (ys[·]?)) (w.alloc (.cells ys ty)):=fun b k u e=>by
    rcases Hp.plus_new e with k1|⟨rfl,k2⟩
    · exact (hs.imm.below hbel) b k u k1
    · exact ⟨by rw [World.cell?_alloc_new];exact k2,hone u (Array.mem_of_getElem? k2)⟩
  have hsim := hs.call hbel (Hp.plus_le H w.heap.size (ys[·]?)) (fun b k u e => by
    rcases Hp.plus_new e with k1|⟨rfl,_⟩
    · exact .inl k1
    · exact .inr (Nat.le_refl _)) him
  refine ⟨_,_,_,hrun,hsim,Hp.plus_le _ _ _, ?_⟩
  by_cases h0:l= []
  · subst h0
    exact .emp _ _ _ (fun h=>by cases h) (by have:len=0:=(by rw [←hll];rfl);unfold maxLen;omega)
  · have hget:∀(k j:Nat) (x:List D) (d:D),l[k]? =some x→x[j]? =some d→ys[0+(k*sz+j)]? =some ((ys[k*sz+j]?).getD undef)∧VD H ((ys[k*sz+j]?).getD undef) d:=by
      intro k j x d hk hj
      have hg:=Pr r1 hk hj
      have hlt:=(List.getElem?_eq_some_iff.1 hg).1
      rw [Gl r1,hll, ←hysz] at hlt
      have hy:ys[k*sz+j]? =some ys[k*sz+j]:=Array.getElem?_eq_getElem hlt
      rw [Nat.zero_add,hy]
      exact ⟨rfl,Ex (y2.2 _ _ (.d d) hy (by rw [List.getElem?_map,hg];rfl))⟩
    exact .sl w.heap.size 0 l.length len sz l (fun k j=>(ys[k*sz+j]?).getD undef) rfl (by omega) (by unfold maxLen;have:len≤len*sz:=Nat.le_mul_of_pos_right _ hpos;omega) r1
      (fun k j x d h1 h2=>by rw [Hp.plus_at hnone];exact (hget k j x d h1 h2).1) (fun k j x d h1 h2=>((hget k j x d h1 h2).2).mono (Hp.plus_le _ _ _))
section
variable {P:Program} {n:Nat} {o:Oper} {f:Fr} {h:Xh} {t ty:TypeId} {sz len:Nat} {parts:Array (Nat × Operand)} {z:Value} {l:List (List D)}
theorem K5 (ho:o.op= .buildSlice t len parts) (hu:P.underlying t=some (.slice ty)) (hsz:sizeB P ty sz=true) (hz:zeroB P ty z)
    (hr:Hn h (ev f) sz parts.toList=some l) (hlen:parts.toList.map (·.1)=List.range len) (hpos:0<sz) (hmax:len*sz≤16777216):Step P n o f h (.d (.sl sz l)) f h:=by
  intro E H β a w hs hf hop
  obtain ⟨u,H',w',r1,r2,r3,r4⟩:=Vk ho hu hsz hz hr hlen hpos hmax (HLe.refl _) hs hop
  unfold Oper.wp
  rw [r1]
  exact ⟨H',β,u,rfl,r2,hf.mono r3 (fun _ _ h=>h), .d r4⟩
theorem CStep.slice (ho:o.op= .buildSlice t len parts) (hu:P.underlying t=some (.slice ty)) (hsz:sizeB P ty sz=true) (hz:zeroB P ty z)
    (hr:Hn h (ev f) sz parts.toList=some l) (hlen:parts.toList.map (·.1)=List.range len) (hpos:0<sz) (hmax:len*sz≤16777216):CStep P o f h [] (.d (.sl sz l)) h:=
  ⟨HLe.refl _, fun _ _ e => .inl e, fun hF hle E H β a w hs _ hop => by
    obtain ⟨u,H',w',r1,r2,r3,r4⟩:=Vk ho hu hsz hz hr hlen hpos hmax hle hs hop
    unfold Oper.wp
    rw [r1]
    exact ⟨H', β, u, rfl, r2, r3, fun _ _ h => h, fun _ _ => rfl, .d r4⟩⟩
end
section
variable {P:Program} {o:Oper} {e:Operand→S} {h:Xh} {t t':TypeId} {x y:Operand} {a b:Int}
theorem Aqa (ho:o.op= .binOp .and t x y t') (hx:e x= .d (.v (.int .i64 a))) (hy:e y= .d (.v (.int .i64 b))) (ha:0≤a) (ha':a≤9223372036854775807) (hb:0≤b) (hb':b≤9223372036854775807):Bv P o e h (.d (.v (.int .i64 ((a.toNat &&& b.toNat:Nat):Int)))):=
  I6 ho hx hy rfl (by simp) fun w=>by
    obtain ⟨m,rfl⟩:∃m:Nat,a=m:=⟨a.toNat,by omega⟩
    obtain ⟨k,rfl⟩:∃k:Nat,b=k:=⟨b.toNat,by omega⟩
    have hm:m<2 ^ 64:=by omega
    have hk:k<2 ^ 64:=by omega
    have h1:(BitVec.ofInt 64 (m:Int) &&& BitVec.ofInt 64 (k:Int)).toNat=m &&& k:=by
      rw [BitVec.toNat_and,BitVec.ofInt_natCast,BitVec.ofInt_natCast,BitVec.toNat_ofNat,BitVec.toNat_ofNat,Nat.mod_eq_of_lt hm,Nat.mod_eq_of_lt hk]
    have hle:m &&& k≤m:=Nat.and_le_left
    show (Op.intBits .and .i64 m k).run P w=_
    unfold Op.intBits
    simp only [Int.toNat_natCast]
    have h2:IntKind.i64.wrap ((m &&& k:Nat):Int)=((m &&& k:Nat):Int):=IntWalk.i64_in _ (by omega)
    show Result.ok (Value.int .i64 (IntKind.i64.wrap ((BitVec.ofInt 64 (m:Int) &&& BitVec.ofInt 64 (k:Int)).toNat:Int))) w=_
    rw [h1,h2]
theorem Asx (n k:Nat):n &&& 2 ^ k=if n / 2 ^ k % 2=1 then 2 ^ k else 0:=by
  have hb:n.testBit k=decide (n / 2 ^ k % 2=1):=Nat.testBit_eq_decide_div_mod_eq
  apply Nat.eq_of_testBit_eq
  intro j
  rw [Nat.testBit_and,Nat.testBit_two_pow]
  by_cases e:k=j
  · subst e
    rw [hb]
    split
    · rename_i h;simp [h]
    · rename_i h;simp [h]
  · split
    · rw [Nat.testBit_two_pow];simp [e]
    · simp [e]
end
section
variable {P:Program} {n:Nat} {o:Oper} {f:Fr} {h:Xh}
theorem A4 (i:Nat) {l:List S} {t:TypeId} {z:Value} (ho:o.op= .alloc t) (hz:zeroB P t z) (hl:S.killL i (z.cells.toList.map fun x=> .d (.v x))=l):Step P n o f h (.ptr i 0 0) (H8 f i) ((h.kill i).set i (.box l)):=by
  subst hl;exact Anu i ho hz
theorem Au (i:Nat) {l:List S} {t:TypeId} {x:Operand} {cs:List S} (ho:o.op= .box t x) (hc:Fp h (ev f x)=some cs) (hl:S.killL i cs=l):Step P n o f h (.ptr i 0 0) (H8 f i) ((h.kill i).set i (.box l)):=by
  subst hl;exact Atf i ho hc
theorem Ag {t m:Nat} {x y:Operand} {i off:Nat} {l cs l':List S} (ho:o.op= .store t x y) (hx:ev f x= .ptr i 0 off) (hi:h i=some (.box l)) (hc:Fp h (ev f y)=some cs) (hz:sizeB P t m=true) (hm:cs.length=m) (hoff:off+m≤l.length) (hl:sets l off cs=l'):
    Step P n o f h (.d (.v undef)) f (h.set i (.box l')):=by
  subst hl;exact Ans ho hx hi hc hz hm hoff
theorem CStep.allocN (i:Nat) {l:List S} {t:TypeId} {z:Value} (ho:o.op= .alloc t) (hz:zeroB P t z) (hi:h i=none) (hl:(z.cells.toList.map fun x=>S.d (.v x))=l):CStep P o f h [i] (.ptr i 0 0) (h.set i (.box l)):=by
  subst hl;exact CStep.alloc i ho hz hi
end
section
variable {P:Program} {n:Nat} {ops:Array Oper} {rest:List Oper} {K K0:Ee} {f:Fr} {h:Xh} {o:Oper} {x y z:Operand} {d:D} {b:Bool} {s:S}
theorem zp (hp:Bv P o (ev f) h s) (hr:XL P n ops rest K (B9 f o.dst s) h) (hw:Ct ops f n o.guard=some true:=by exact rfl):XL P n ops (o::rest) K f h:=XL.pure hw hp hr
theorem zm (ho:o.op= .move x) (hs:ev f x= .d d) (hr:XL P n ops rest K (B9 f o.dst (.d d)) h) (hw:Ct ops f n o.guard=some true:=by exact rfl):XL P n ops (o::rest) K f h:=XL.pure hw (Aw ho hs) hr
theorem za (ho:o.op= .assign x) (hs:ev f x= .d d) (hr:XL P n ops rest K (B9 f o.dst (.d d)) h) (hw:Ct ops f n o.guard=some true:=by exact rfl):XL P n ops (o::rest) K f h:=XL.pure hw (As ho hs) hr
theorem zq (ho:o.op= .pick z x y) (hc:ev f z= .d (.v (.bool b))) (hs:(bif b then ev f x else ev f y)= .d d) (hr:XL P n ops rest K (B9 f o.dst (.d d)) h) (hw:Ct ops f n o.guard=some true:=by exact rfl):XL P n ops (o::rest) K f h:=XL.pure hw (A6 ho hc hs) hr
def skB (ops:Array Oper) (n:Nat):Nat→List Oper→Fr→Bool
  |0,_,_=>true
  |_+1, [],_=>false
  |k+1,o::r,f=>(match Ct ops f n o.guard with|some false=>true|_=>false) && skB ops n k r (B9 f o.dst (.d (.v undef)))
def skF:Nat→List Oper→Fr→Fr
  |0,_,f=>f
  |_+1, [],f=>f
  |k+1,o::r,f=>skF k r (B9 f o.dst (.d (.v undef)))
theorem zk (k:Nat) (hk:skB ops n k rest f=true) (hr:XL P n ops (rest.drop k) K (skF k rest f) h):XL P n ops rest K f h:=by
  induction k generalizing rest f with
  |zero=>exact hr
  |succ k ih=>
    cases rest with
    |nil=>cases hk
    |cons o r=>
      rw [skB,Bool.and_eq_true] at hk
      have hw:Ct ops f n o.guard=some false:=by
        have h1:=hk.1
        split at h1
        · assumption
        · cases h1
      exact XL.skip hw (ih hk.2 hr)
theorem zr {id:Nat} {l:List Oper} {c:Code} (hl:XL P n l.toArray l (Oz (XW P n c K) K) f h) (hin:l.all (inN n)=true:=by kernel_rfl):XW P n (.seq (.region id l.toArray false) c) K f h:=Aky (Af hin hl)
theorem znr {id:Nat} {l:List Oper} {c:Code} (hl:XL P n l.toArray l (Oz (XW P n c K) K) f h) (hin:l.all (inN n)=true:=by kernel_rfl):XL P n ops [] (Oz (XW P n (.seq (.region id l.toArray false) c) K) K0) f h:=XL.nil (zr hl hin)
theorem zng {id:Nat} {l:List Oper} (hl:XL P n l.toArray l K f h) (hin:l.all (inN n)=true:=by kernel_rfl):XL P n ops [] (Oz (XW P n (.region id l.toArray false) K) K0) f h:=XL.nil (Af hin hl)
theorem yp {acc:List (List Nat × S)} {G:List (List Nat × S)→Fr→Xh→Prop} (hp:Bv P o (ev f) h s) (hr:ChK P n ops rest (B9 f o.dst s) h (acc++ [([],s)]) G) (hw:Ct ops f n o.guard=some true:=by exact rfl):ChK P n ops (o::rest) f h acc G:=ChK.cons hw (CStep.pure hp) hr
theorem ym {acc:List (List Nat × S)} {G:List (List Nat × S)→Fr→Xh→Prop} (ho:o.op= .move x) (hs:ev f x= .d d) (hr:ChK P n ops rest (B9 f o.dst (.d d)) h (acc++ [([], .d d)]) G) (hw:Ct ops f n o.guard=some true:=by exact rfl):ChK P n ops (o::rest) f h acc G:=ChK.cons hw (CStep.pure (Aw ho hs)) hr
theorem ya {acc:List (List Nat × S)} {G:List (List Nat × S)→Fr→Xh→Prop} (ho:o.op= .assign x) (hs:ev f x= .d d) (hr:ChK P n ops rest (B9 f o.dst (.d d)) h (acc++ [([], .d d)]) G) (hw:Ct ops f n o.guard=some true:=by exact rfl):ChK P n ops (o::rest) f h acc G:=ChK.cons hw (CStep.pure (As ho hs)) hr
theorem zn (hk:K .normal f h):XL P n ops [] K f h:=XL.nil hk
theorem zs {x y:Code} (hx:XW P n x (Oz (XW P n y K) K) f h):XW P n (.seq x y) K f h:=Aky hx
theorem zt (hk:K .ret f h):XW P n .ret K f h:=As0 hk
theorem zi (hk:K .normal f h):XW P n .skip K f h:=Aqp hk
theorem zd {c:Operand} {x y:Code} {p:Prop} [Decidable p] (hc:ev f c= .d (.v (.bool (decide p)))) (h1:p→XW P n x K f h) (h2:¬p→XW P n y K f h) (hi:Up n c=true:=by kernel_rfl):XW P n (.cond c x y) K f h:=As1 hi hc h1 h2
theorem z1 {fn:Func} {R:D→Prop} {t:Nat} (hr:fn.results= #[.tmp t]) (hf:f t= .d d) (hR:R d) (ht:Nat.blt t n=true:=by exact rfl):Mi P n fn R f h:=Gb hr (RV.tmp ht hf) hR
theorem sr {s:S}:Sub s s:= .same rfl
def FA (f:Fr):List (Nat × S)→Prop
  | []=>True
  |(t,s)::l=>Sub (f t) s∧FA f l
theorem fz:∀{l:List (Nat × S)},FA f l→FSub n f (mkF l)
  | [],_=>FSub.nil
  |(_,_)::_,h=>FSub.cons h.1 (fz h.2)
def HA (h:Xh):List (Nat × XO)→Prop
  | []=>True
  |(i,o)::l=>h i=some o∧HA h l
theorem gz:∀{l:List (Nat × XO)},HA h l→HSub h (mkH l)
  | [],_=>HSub.nil
  |(_,_)::_,k=>HSub.cons k.1 (gz k.2)
end
end Go.Proofs.YtcihalbakenleaaGreat
namespace Go.Proofs.YtcihalbakenleaaGreat
open Go.RowKit
def Ua:Nat→Int
 |0=>0|1=>2|2=>4|3=>5|4=>7|5=>9|_=>11
theorem Ahp (k:Nat):0≤Ua k∧Ua k≤11:=by unfold Ua;split<;>omega
def Alm:List D:= [dI 0,dI 2,dI 4,dI 5,dI 7,dI 9,dI 11]
theorem All (k:Nat) (h:k<7):Alm[k]? =some (dI (Ua k)):=by
 match k,h with
 |0,_=>rfl|1,_=>rfl|2,_=>rfl|3,_=>rfl|4,_=>rfl|5,_=>rfl|6,_=>rfl
 |k+7,h=>omega
def Pit.inR (p:Pit):Prop:=0≤p.step∧p.step≤6∧ -2≤p.alter∧p.alter≤2∧ -1≤p.oct∧p.oct≤9
instance (p:Pit):Decidable p.inR:=by unfold Pit.inR;exact inferInstance
def Pit.n (p:Pit):Int:=12*(p.oct+1)+Ua p.step.toNat+p.alter
def Pit.good (p:Pit):Prop:=p.inR∧0≤p.n∧p.n≤127
instance (p:Pit):Decidable p.good:=by unfold Pit.good;exact inferInstance
def Pit.err (p:Pit):Int:=if p.good then 0 else 18
def Pit.num (p:Pit):Int:=if p.good then p.n else 0
theorem Aam  :XC Tryz.prog 192 [] (fun r=>r= .agg Alm):=by
 refine Ao Ace Tryz.func192 R R lb<|zr<|XL.step R (A4 0 (l:= [.d (dI 0), .d (dI 0), .d (dI 0), .d (dI 0), .d (dI 0), .d (dI 0), .d (dI 0)]) R Z5 (by kernel_rfl))<|znr<|zp (Ae (s':= .d (.agg [dI 0,dI 2,dI 4,dI 5,dI 7,dI 9,dI 11])) (Ac (Qr R Tryz.underlying210 Dc Z5 R)) (by kernel_rfl))<|?_
 refine XL.step R (Ag (l':= [.d (dI 0), .d (dI 2), .d (dI 4), .d (dI 5), .d (dI 7), .d (dI 9), .d (dI 11)]) R R R R As8 R lb (by kernel_rfl))<|zn<|zt<|?_
 exact Gb R (RV.cells R R R Asy lb R) (R)
theorem V3 (p:Pit) (h:p.inR):XC Tryz.prog 189 [.agg (Pit.c p)] (fun r=>r=dI p.n):=by
 obtain ⟨k,hk⟩:∃k:Nat,p.step=k:=⟨p.step.toNat,by have:=h.1;omega⟩
 have hb:=Ahp k
 have h':=h
 simp only [Pit.inR] at h
 refine Ao Ach Tryz.func189 R R lb<|zr<|XL.step R (Au 1 (l:= [.d (dI p.step), .d (dI p.alter), .d (dI p.oct)]) R R (by kernel_rfl))<|za R R<|zn<|zs<|Bk [] (by kernel_rfl) (by kernel_rfl) (by kernel_rfl) (by decide)<|yp (Aa R R L8)<|yp (Ab R R Ai R R)<|yp (Aj R R R (by omega) (by omega))<|yp (Hv R R R (by omega) (by omega))<|?_
 refine ChK.cons R (CStep.call R (Aam) R)<|yp (Aa R R Ma)<|yp (Ab R R Ai R R)<|yp (Ym (k:=k) R R R hk Tryz.underlying210 Ai Dc (by omega) (All k (by omega)))<|yp (Aj R R R (by omega) (by omega))<|yp (Aa R R L9)<|yp (Ab R R Ai R R)<|yp (Aj R R R (by omega) (by omega))<|ya R R<|?_
 refine ChK.nil ⟨by kernel_rfl, ?_⟩
 exact zt<|z1 R R (rI (by rw [Pit.n,hk];rfl))
theorem Pit.inR_mk {p:Pit} (h1:¬p.step<0) (h2:¬6<p.step) (h3:¬p.alter< -2) (h4:¬2<p.alter) (h5:¬p.oct< -1) (h6:¬9<p.oct):p.inR:=⟨by omega,by omega,by omega,by omega,by omega,by omega⟩
theorem Pit.err_no {p:Pit} (h:¬p.good):18=p.err:=by rw [Pit.err,if_neg h]
theorem Pit.err_ok {p:Pit} (h:p.good):0=p.err:=by rw [Pit.err,if_pos h]
theorem Al2 (p:Pit):XC Tryz.prog 188 [.agg (Pit.c p)] (fun r=>r=dI p.err):=by
 refine Ao Aci Tryz.func188 R R lb<|zr<|XL.step R (Au 1 (l:= [.d (dI p.step), .d (dI p.alter), .d (dI p.oct)]) R R (by kernel_rfl))<|za R R<|zn<|zs<|zr<|zp (Aa R R Ma)<|zp (Ab R R Ai R R)<|zp (Ar R R R)<|zm R R<|?_
 refine XL.dec 7 R (fun g7=> ?_) (fun g7=> ?_)
 refine zk 3 R<|zq R R R<|zm R R<|zk 3 R<|zq R R R<|zm R R<|zk 3 R<|zq R R R<|zm R R<|zk 3 R<|zq R R R<|zm R R<|zk 3 R<|zq R R R<|?_
 exact zn<|Aq (by kernel_rfl) R<|zr<|za R R<|zn<|zt<|z1 R R (rI (Pit.err_no fun h=>by obtain ⟨⟨h1,h2,h3,h4,h5,h6⟩,_⟩:=h;omega))
 refine zp (Aa R R Ma)<|zp (Ab R R Ai R R)<|zp (A8 R R R)<|zq R R R<|zm R R<|?_
 refine XL.dec 12 R (fun g12=> ?_) (fun g12=> ?_)
 refine zk 3 R<|zq R R R<|zm R R<|zk 3 R<|zq R R R<|zm R R<|zk 3 R<|zq R R R<|zm R R<|zk 3 R<|zq R R R<|zn<|Aq (by kernel_rfl) R<|zr<|?_
 exact za R R<|zn<|zt<|z1 R R (rI (Pit.err_no fun h=>by obtain ⟨⟨h1,h2,h3,h4,h5,h6⟩,_⟩:=h;omega))
 refine zp (Aa R R L9)<|zp (Ab R R Ai R R)<|zp (Ar R R R)<|zq R R R<|zm R R<|?_
 refine XL.dec 17 R (fun g17=> ?_) (fun g17=> ?_)
 exact zk 3 R<|zq R R R<|zm R R<|zk 3 R<|zq R R R<|zm R R<|zk 3 R<|zq R R R<|zn<|Aq (by kernel_rfl) R<|zr<|za R R<|zn<|zt<|z1 R R (rI (Pit.err_no fun h=>by obtain ⟨⟨h1,h2,h3,h4,h5,h6⟩,_⟩:=h;omega))
 refine zp (Aa R R L9)<|zp (Ab R R Ai R R)<|zp (A8 R R R)<|zq R R R<|zm R R<|?_
 refine XL.dec 22 R (fun g22=> ?_) (fun g22=> ?_)
 exact zk 3 R<|zq R R R<|zm R R<|zk 3 R<|zq R R R<|zn<|Aq (by kernel_rfl) R<|zr<|za R R<|zn<|zt<|z1 R R (rI (Pit.err_no fun h=>by obtain ⟨⟨h1,h2,h3,h4,h5,h6⟩,_⟩:=h;omega))
 refine zp (Aa R R L8)<|zp (Ab R R Ai R R)<|zp (Ar R R R)<|zq R R R<|zm R R<|?_
 refine XL.dec 27 R (fun g27=> ?_) (fun g27=> ?_)
 exact zk 3 R<|zq R R R<|zn<|Aq (by kernel_rfl) R<|zr<|za R R<|zn<|zt<|z1 R R (rI (Pit.err_no fun h=>by obtain ⟨⟨h1,h2,h3,h4,h5,h6⟩,_⟩:=h;omega))
 refine zp (Aa R R L8)<|zp (Ab R R Ai R R)<|zp (A8 R R R)<|zq R R R<|zn<|?_
 refine zd R (fun c31=> ?_) (fun c31=> ?_)
 exact zr<|za R R<|zn<|zt<|z1 R R (rI (Pit.err_no fun h=>by obtain ⟨⟨h1,h2,h3,h4,h5,h6⟩,_⟩:=h;omega))
 refine zi<|zs<|zs<|?_
 have hin:p.inR:=by refine Pit.inR_mk ?_ ?_ ?_ ?_ ?_ ?_<;>assumption
 refine Af (by kernel_rfl)<|zp (Ae (s':= .d (.agg (Pit.c p))) (Ac (Ad R R Eu R lb)) (by kernel_rfl))<|XL.call1 R R (V3 _ (by assumption)) R<|za R R<|znr<|zm R R<|zp (Ar R R R)<|zm R R<|?_
 refine XL.dec 36 R (fun g36=> ?_) (fun g36=> ?_)
 exact zk 2 R<|zq R R R<|zn<|Aq (by kernel_rfl) R<|zr<|za R R<|zn<|zt<|z1 R R (rI (Pit.err_no fun h=>by obtain ⟨_,h1,h2⟩:=h;omega))
 refine zm R R<|zp (A8 R R R)<|zq R R R<|zn<|?_
 refine zd R (fun c39=> ?_) (fun c39=> ?_)
 exact zr<|za R R<|zn<|zt<|z1 R R (rI (Pit.err_no fun h=>by obtain ⟨_,h1,h2⟩:=h;omega))
 exact zi<|zr<|za R R<|zn<|zt<|z1 R R (rI (Pit.err_ok ⟨hin,by omega,by omega⟩))
theorem Pit.err_num {p:Pit} (h:p.err≠0):0=p.num∧p.err=18:=by unfold Pit.err at h ⊢;unfold Pit.num;split<;>simp_all
theorem Pit.of_err {p:Pit} (h:¬p.err≠0):p.good:=by unfold Pit.err at h;split at h<;>simp_all
theorem Pit.num_ok {p:Pit} (h:p.good):p.num=p.n:=by rw [Pit.num,if_pos h]
theorem Pit.num_bd (p:Pit):0≤p.num∧p.num≤127:=by
 unfold Pit.num
 split
 ·rename_i h;exact h.2
 ·omega
theorem Ajq (p:Pit):XC Tryz.prog 178 [.agg (Pit.c p)] (fun r=>r= .tup [dI p.num,dI p.err]):=by
 refine Ao Acr Tryz.func178 R R lb<|zr<|XL.step R (Au 1 (l:= [.d (dI p.step), .d (dI p.alter), .d (dI p.oct)]) R R (by kernel_rfl))<|za R R<|za R R<|zn<|zs<|zr<|zp (Ae (s':= .d (.agg (Pit.c p))) (Ac (Ad R R Eu R lb)) (by kernel_rfl))<|XL.call1 R R (Al2 _) R<|za R R<|znr<|zm R R<|zp (Bg R R R)<|?_
 refine zn<|?_
 refine zd R (fun c8=> ?_) (fun c8=> ?_)
 refine zr<|zm R R<|za R R<|za R R<|zn<|zt<|?_
 exact Bl R (RV.tmp R R) (RV.tmp R R) (r2 (rI (Pit.err_num c8).1) R)
 refine zi<|zs<|?_
 have hg:=Pit.of_err c8
 have hin:=hg.1
 refine Af (by kernel_rfl)<|zp (Ae (s':= .d (.agg (Pit.c p))) (Ac (Ad R R Eu R lb)) (by kernel_rfl))<|XL.call1 R R (V3 _ (by assumption)) R<|za R R<|za R R<|zn<|zt<|?_
 exact Bl R (RV.tmp R R) (RV.tmp R R) (r2 (rI (Pit.num_ok hg).symm) (rI (Pit.err_ok hg)))
theorem Q9 (p:Pit):XC Tryz.prog 153 [.agg (Pit.c p)] (fun r=>r= .tup [dI p.num,dI p.err]):=by
 have hb:=p.num_bd
 refine Ao Adf Tryz.func153 R R lb<|zr<|XL.step R (Au 1 (l:= [.d (dI p.step), .d (dI p.alter), .d (dI p.oct)]) R R (by kernel_rfl))<|za R R<|za R R<|znr<|zp (Ae (s':= .d (.agg (Pit.c p))) (Ac (Ad R R Eu R lb)) (by kernel_rfl))<|XL.call1 R R (Ajq _) R<|zm R R<|zp (Bc R R R)<|zp (Bc R R R)<|za R R<|za R R<|zn<|?_
 refine zs<|zr<|zm R R<|zp (Bg R R R)<|zm R R<|?_
 refine XL.dec 13 R (fun g13=> ?_) (fun g13=> ?_)
 refine zk 2 R<|zq R R R<|zm R R<|zk 2 R<|zq R R R<|zn<|Aq (by kernel_rfl) R<|zr<|za R R<|za R R<|zn<|zt<|?_
 exact Bl R (RV.tmp R R) (RV.tmp R R) (r2 (rI (Pit.err_num g13).1) (rI (Pit.err_num g13).2.symm))
 refine zm R R<|zp (Ar R R R)<|zq R R R<|zm R R<|?_
 refine XL.dec 17 R (fun g17=> ?_) (fun g17=> ?_)
 refine zk 2 R<|zq R R R<|zn<|Aq (by kernel_rfl) R<|zr<|za R R<|za R R<|zn<|zt<|?_
 exact Bl R (RV.tmp R R) (RV.tmp R R) (by exfalso;omega)
 refine zm R R<|zp (A8 R R R)<|zq R R R<|zn<|?_
 refine zd R (fun c20=> ?_) (fun c20=> ?_)
 refine zr<|za R R<|za R R<|zn<|zt<|?_
 exact Bl R (RV.tmp R R) (RV.tmp R R) (by exfalso;omega)
 refine zi<|zr<|zm R R<|za R R<|za R R<|zn<|zt<|?_
 exact Bl R (RV.tmp R R) (RV.tmp R R) (r2 R (rI (Pit.err_ok (Pit.of_err g13))))
end Go.Proofs.YtcihalbakenleaaGreat
namespace Go.Proofs.YtcihalbakenleaaGreat
open Go.RowKit
theorem Gm {P:Program} {w:World} (d t:Nat) (h:P.underlying t=some (.int .i64)) (a b:Int):(Op.equalIn (d+1) t (.int .i64 a) (.int .i64 b)).run P w= .ok (decide (a=b)) w:=by
 rw [run_equalIn_int w d t .i64 .i64 a b h];by_cases e:a=b<;>simp [e]
theorem Ab5 {P:Program} {w:World} (d t:Nat) (h:P.underlying t=some .bool) (a b:Bool):(Op.equalIn (d+1) t (.bool a) (.bool b)).run P w= .ok (decide (a=b)) w:=by
 rw [run_equalIn_bool' w d t a b h];cases a<;>cases b<;>rfl
theorem Asw {P:Program} {w:World} (d t:Nat) (h:P.underlying t=some .string) (a b:ByteArray):(Op.equalIn (d+1) t (.string a) (.string b)).run P w= .ok (decide (a.toList=b.toList)) w:=by
 rw [run_equalIn_string w d t a b h];by_cases e:a.toList=b.toList<;>simp [e]
theorem Id {P:Program} {t:TypeId} {fs:Array Field} (h:P.underlying t=some (.struct fs)):P.fieldsOf t=fs:=by unfold Program.fieldsOf;rw [h]
theorem Dx {P:Program} {t:TypeId} (hs:scB P t=true) (w:World) {cs:Array Value} {off:Nat} {v:Value} (h:cs[off]? =some v):(part t cs off).run P w= .ok v w:=by
 unfold part;simp only [Sem.run_bind,scB.isAgg hs,Result.andThen_ok,Bool.false_eq_true,if_false,h,Sem.run_pure]
theorem Zu {P:Program} {t n:Nat} (hs:aggB P t n=true) (w:World) {cs ds:Array Value} {off:Nat} (h:cs.extract off (off+n)=ds):(part t cs off).run P w= .ok (.agg ds) w:=by
 unfold part;simp only [Sem.run_bind,(aggB.isAgg hs w).1,Result.andThen_ok,if_true,(aggB.isAgg hs w).2,h,Sem.run_pure]
section
variable {P:Program} {w:World} {d:Nat} {xs ys:Array Value} {f:Field} {fs:List Field} {a b:Value} {p q:Prop} [Decidable p] [Decidable q]
theorem G7 (hn : f.name ≠ "_") (ha : (part f.type xs f.offset).run P w = .ok a w) (hb : (part f.type ys f.offset).run P w = .ok b w) (he : (Op.equalIn d f.type a b).run P w = .ok (decide p) w) (hr : (Op.eqFields d xs ys fs).run P w = .ok (decide q) w) :
  (Op.eqFields d xs ys (f::fs)).run P w= .ok (decide (p∧q)) w:=by
 unfold Op.eqFields
 rw [if_pos hn]
 simp only [Sem.run_bind,ha,hb,he,Result.andThen_ok,Sem.run_ite,hr,Sem.run_pure]
 by_cases h:p<;>simp [h]
theorem Mc (hn : f.name ≠ "_") (ha : (part f.type xs f.offset).run P w = .ok a w) (hb : (part f.type ys f.offset).run P w = .ok b w) (he : (Op.equalIn d f.type a b).run P w = .ok (decide p) w) :
  (Op.eqFields d xs ys [f]).run P w= .ok (decide p) w:=by
 unfold Op.eqFields
 rw [if_pos hn]
 simp only [Sem.run_bind,ha,hb,he,Result.andThen_ok,Sem.run_ite,Op.eqFields,Sem.run_pure]
 by_cases h:p<;>simp [h]
end
theorem Ail (d:Nat) (w:World) (a0:Int) (a1:Int) (b0:Int) (b1:Int):(Op.equalIn (d+2) 54 (.agg #[.int .i64 a0, .int .i64 a1]) (.agg #[.int .i64 b0, .int .i64 b1])).run Tryz.prog w= .ok (decide (a0=b0∧a1=b1)) w:=by
 rw [show d+2=(d+1)+1 from rfl,run_equalIn_struct w (d+1) 54 _ _ (by kernel_rfl) (by kernel_rfl),Id Tryz.underlying54]
 exact G7 (by decide) (Dx Ai w rfl) (Dx Ai w rfl) (Gm (d+0) 3 Tryz.underlying3 _ _) (Mc (by decide) (Dx Ai w rfl) (Dx Ai w rfl) (Gm (d+0) 3 Tryz.underlying3 _ _))
theorem Aop {t':TypeId} {o:Oper} {e:Operand→S} {h:Xh} {x y:Operand} {a0:Int} {a1:Int} {b0:Int} {b1:Int} (ho:o.op= .binOp .eql 54 x y t') (hx:e x= .d (.agg [.v (.int .i64 a0), .v (.int .i64 a1)])) (hy:e y= .d (.agg [.v (.int .i64 b0), .v (.int .i64 b1)])):Bv Tryz.prog o e h (.d (.v (.bool (decide (a0=b0∧a1=b1))))):=by
 refine Gh ho hx hy rfl rfl (by kernel_rfl) fun w=> ?_
 refine (run_eql_struct w 54 #[.int .i64 a0, .int .i64 a1] #[.int .i64 b0, .int .i64 b1]).trans ?_
 have hq:=Ail 9998 w a0 a1 b0 b1
 simp only [Nat.reduceAdd] at hq
 rw [hq]
 simp only [Result.andThen_ok]
theorem Aa7 {t':TypeId} {o:Oper} {e:Operand→S} {h:Xh} {x y:Operand} {a0:Int} {a1:Int} {b0:Int} {b1:Int} (ho:o.op= .binOp .neq 54 x y t') (hx:e x= .d (.agg [.v (.int .i64 a0), .v (.int .i64 a1)])) (hy:e y= .d (.agg [.v (.int .i64 b0), .v (.int .i64 b1)])):Bv Tryz.prog o e h (.d (.v (.bool (decide (¬(a0=b0∧a1=b1)))))):=by
 refine Gh ho hx hy rfl rfl (by kernel_rfl) fun w=> ?_
 refine (run_neq_struct w 54 #[.int .i64 a0, .int .i64 a1] #[.int .i64 b0, .int .i64 b1]).trans ?_
 have hq:=Ail 9998 w a0 a1 b0 b1
 simp only [Nat.reduceAdd] at hq
 rw [hq]
 simp only [Result.andThen_ok,decide_not]
theorem Aik (d:Nat) (w:World) (a0:Int) (a1:Int) (b0:Int) (b1:Int):(Op.equalIn (d+2) 56 (.agg #[.int .i64 a0, .int .i64 a1]) (.agg #[.int .i64 b0, .int .i64 b1])).run Tryz.prog w= .ok (decide (a0=b0∧a1=b1)) w:=by
 rw [show d+2=(d+1)+1 from rfl,run_equalIn_struct w (d+1) 56 _ _ (by kernel_rfl) (by kernel_rfl),Id Tryz.underlying56]
 exact G7 (by decide) (Dx Ai w rfl) (Dx Ai w rfl) (Gm (d+0) 3 Tryz.underlying3 _ _) (Mc (by decide) (Dx Ai w rfl) (Dx Ai w rfl) (Gm (d+0) 3 Tryz.underlying3 _ _))
theorem Qq {t':TypeId} {o:Oper} {e:Operand→S} {h:Xh} {x y:Operand} {a0:Int} {a1:Int} {b0:Int} {b1:Int} (ho:o.op= .binOp .eql 56 x y t') (hx:e x= .d (.agg [.v (.int .i64 a0), .v (.int .i64 a1)])) (hy:e y= .d (.agg [.v (.int .i64 b0), .v (.int .i64 b1)])):Bv Tryz.prog o e h (.d (.v (.bool (decide (a0=b0∧a1=b1))))):=by
 refine Gh ho hx hy rfl rfl (by kernel_rfl) fun w=> ?_
 refine (run_eql_struct w 56 #[.int .i64 a0, .int .i64 a1] #[.int .i64 b0, .int .i64 b1]).trans ?_
 have hq:=Aik 9998 w a0 a1 b0 b1
 simp only [Nat.reduceAdd] at hq
 rw [hq]
 simp only [Result.andThen_ok]
theorem Aol {t':TypeId} {o:Oper} {e:Operand→S} {h:Xh} {x y:Operand} {a0:Int} {a1:Int} {b0:Int} {b1:Int} (ho:o.op= .binOp .neq 56 x y t') (hx:e x= .d (.agg [.v (.int .i64 a0), .v (.int .i64 a1)])) (hy:e y= .d (.agg [.v (.int .i64 b0), .v (.int .i64 b1)])):Bv Tryz.prog o e h (.d (.v (.bool (decide (¬(a0=b0∧a1=b1)))))):=by
 refine Gh ho hx hy rfl rfl (by kernel_rfl) fun w=> ?_
 refine (run_neq_struct w 56 #[.int .i64 a0, .int .i64 a1] #[.int .i64 b0, .int .i64 b1]).trans ?_
 have hq:=Aik 9998 w a0 a1 b0 b1
 simp only [Nat.reduceAdd] at hq
 rw [hq]
 simp only [Result.andThen_ok,decide_not]
theorem S8 (d:Nat) (w:World) (a0:Int) (a1:Int) (a2:Int) (b0:Int) (b1:Int) (b2:Int):(Op.equalIn (d+2) 89 (.agg #[.int .i64 a0, .int .i64 a1, .int .i64 a2]) (.agg #[.int .i64 b0, .int .i64 b1, .int .i64 b2])).run Tryz.prog w= .ok (decide (a0=b0∧a1=b1∧a2=b2)) w:=by
 rw [show d+2=(d+1)+1 from rfl,run_equalIn_struct w (d+1) 89 _ _ (by kernel_rfl) (by kernel_rfl),Id Tryz.underlying89]
 exact G7 (by decide) (Dx Ai w rfl) (Dx Ai w rfl) (Gm (d+0) 3 Tryz.underlying3 _ _) (G7 (by decide) (Dx Ai w rfl) (Dx Ai w rfl) (Gm (d+0) 3 Tryz.underlying3 _ _) (Mc (by decide) (Dx Ai w rfl) (Dx Ai w rfl) (Gm (d+0) 3 Tryz.underlying3 _ _)))
theorem Aa8 {t':TypeId} {o:Oper} {e:Operand→S} {h:Xh} {x y:Operand} {a0:Int} {a1:Int} {a2:Int} {b0:Int} {b1:Int} {b2:Int} (ho:o.op= .binOp .eql 89 x y t') (hx:e x= .d (.agg [.v (.int .i64 a0), .v (.int .i64 a1), .v (.int .i64 a2)])) (hy:e y= .d (.agg [.v (.int .i64 b0), .v (.int .i64 b1), .v (.int .i64 b2)])):Bv Tryz.prog o e h (.d (.v (.bool (decide (a0=b0∧a1=b1∧a2=b2))))):=by
 refine Gh ho hx hy rfl rfl (by kernel_rfl) fun w=> ?_
 refine (run_eql_struct w 89 #[.int .i64 a0, .int .i64 a1, .int .i64 a2] #[.int .i64 b0, .int .i64 b1, .int .i64 b2]).trans ?_
 have hq:=S8 9998 w a0 a1 a2 b0 b1 b2
 simp only [Nat.reduceAdd] at hq
 rw [hq]
 simp only [Result.andThen_ok]
theorem Aok {t':TypeId} {o:Oper} {e:Operand→S} {h:Xh} {x y:Operand} {a0:Int} {a1:Int} {a2:Int} {b0:Int} {b1:Int} {b2:Int} (ho:o.op= .binOp .neq 89 x y t') (hx:e x= .d (.agg [.v (.int .i64 a0), .v (.int .i64 a1), .v (.int .i64 a2)])) (hy:e y= .d (.agg [.v (.int .i64 b0), .v (.int .i64 b1), .v (.int .i64 b2)])):Bv Tryz.prog o e h (.d (.v (.bool (decide (¬(a0=b0∧a1=b1∧a2=b2)))))):=by
 refine Gh ho hx hy rfl rfl (by kernel_rfl) fun w=> ?_
 refine (run_neq_struct w 89 #[.int .i64 a0, .int .i64 a1, .int .i64 a2] #[.int .i64 b0, .int .i64 b1, .int .i64 b2]).trans ?_
 have hq:=S8 9998 w a0 a1 a2 b0 b1 b2
 simp only [Nat.reduceAdd] at hq
 rw [hq]
 simp only [Result.andThen_ok,decide_not]
theorem Asv (d:Nat) (w:World) (a0:Int) (a1:Int) (a2:Int) (a3:Bool) (a4:Int) (b0:Int) (b1:Int) (b2:Int) (b3:Bool) (b4:Int):(Op.equalIn (d+3) 91 (.agg #[.int .i64 a0, .int .i64 a1, .int .i64 a2, .bool a3, .int .i64 a4]) (.agg #[.int .i64 b0, .int .i64 b1, .int .i64 b2, .bool b3, .int .i64 b4])).run Tryz.prog w= .ok (decide ((a0=b0∧a1=b1∧a2=b2)∧a3=b3∧a4=b4)) w:=by
 rw [show d+3=(d+2)+1 from rfl,run_equalIn_struct w (d+2) 91 _ _ (by kernel_rfl) (by kernel_rfl),Id Tryz.underlying91]
 exact G7 (by decide) (Zu Eu w rfl) (Zu Eu w rfl) (S8 (d) w _ _ _ _ _ _) (G7 (by decide) (Dx Kq w rfl) (Dx Kq w rfl) (Ab5 (d+1) 4 Tryz.underlying4 _ _) (Mc (by decide) (Dx Ai w rfl) (Dx Ai w rfl) (Gm (d+1) 3 Tryz.underlying3 _ _)))
theorem Aa6 {t':TypeId} {o:Oper} {e:Operand→S} {h:Xh} {x y:Operand} {a0:Int} {a1:Int} {a2:Int} {a3:Bool} {a4:Int} {b0:Int} {b1:Int} {b2:Int} {b3:Bool} {b4:Int} (ho:o.op= .binOp .neq 91 x y t') (hx:e x= .d (.agg [.v (.int .i64 a0), .v (.int .i64 a1), .v (.int .i64 a2), .v (.bool a3), .v (.int .i64 a4)])) (hy:e y= .d (.agg [.v (.int .i64 b0), .v (.int .i64 b1), .v (.int .i64 b2), .v (.bool b3), .v (.int .i64 b4)])):Bv Tryz.prog o e h (.d (.v (.bool (decide (¬((a0=b0∧a1=b1∧a2=b2)∧a3=b3∧a4=b4)))))):=by
 refine Gh ho hx hy rfl rfl (by kernel_rfl) fun w=> ?_
 refine (run_neq_struct w 91 #[.int .i64 a0, .int .i64 a1, .int .i64 a2, .bool a3, .int .i64 a4] #[.int .i64 b0, .int .i64 b1, .int .i64 b2, .bool b3, .int .i64 b4]).trans ?_
 have hq:=Asv 9997 w a0 a1 a2 a3 a4 b0 b1 b2 b3 b4
 simp only [Nat.reduceAdd] at hq
 rw [hq]
 simp only [Result.andThen_ok,decide_not]
theorem App (d:Nat) (w:World) (a0:Int) (a1:Int) (a2:Int) (a3:Int) (b0:Int) (b1:Int) (b2:Int) (b3:Int):(Op.equalIn (d+2) 102 (.agg #[.int .i64 a0, .int .i64 a1, .int .i64 a2, .int .i64 a3]) (.agg #[.int .i64 b0, .int .i64 b1, .int .i64 b2, .int .i64 b3])).run Tryz.prog w= .ok (decide (a0=b0∧a1=b1∧a2=b2∧a3=b3)) w:=by
 rw [show d+2=(d+1)+1 from rfl,run_equalIn_struct w (d+1) 102 _ _ (by kernel_rfl) (by kernel_rfl),Id Tryz.underlying102]
 exact G7 (by decide) (Dx Ai w rfl) (Dx Ai w rfl) (Gm (d+0) 3 Tryz.underlying3 _ _) (G7 (by decide) (Dx Ai w rfl) (Dx Ai w rfl) (Gm (d+0) 3 Tryz.underlying3 _ _) (G7 (by decide) (Dx Ai w rfl) (Dx Ai w rfl) (Gm (d+0) 3 Tryz.underlying3 _ _) (Mc (by decide) (Dx Ai w rfl) (Dx Ai w rfl) (Gm (d+0) 3 Tryz.underlying3 _ _))))
theorem Al3 {t':TypeId} {o:Oper} {e:Operand→S} {h:Xh} {x y:Operand} {a0:Int} {a1:Int} {a2:Int} {a3:Int} {b0:Int} {b1:Int} {b2:Int} {b3:Int} (ho:o.op= .binOp .neq 102 x y t') (hx:e x= .d (.agg [.v (.int .i64 a0), .v (.int .i64 a1), .v (.int .i64 a2), .v (.int .i64 a3)])) (hy:e y= .d (.agg [.v (.int .i64 b0), .v (.int .i64 b1), .v (.int .i64 b2), .v (.int .i64 b3)])):Bv Tryz.prog o e h (.d (.v (.bool (decide (¬(a0=b0∧a1=b1∧a2=b2∧a3=b3)))))):=by
 refine Gh ho hx hy rfl rfl (by kernel_rfl) fun w=> ?_
 refine (run_neq_struct w 102 #[.int .i64 a0, .int .i64 a1, .int .i64 a2, .int .i64 a3] #[.int .i64 b0, .int .i64 b1, .int .i64 b2, .int .i64 b3]).trans ?_
 have hq:=App 9998 w a0 a1 a2 a3 b0 b1 b2 b3
 simp only [Nat.reduceAdd] at hq
 rw [hq]
 simp only [Result.andThen_ok,decide_not]
theorem Apo (d:Nat) (w:World) (a0:Int) (a1:Int) (a2:Int) (a3:Int) (a4:Bool) (b0:Int) (b1:Int) (b2:Int) (b3:Int) (b4:Bool):(Op.equalIn (d+3) 138 (.agg #[.int .i64 a0, .int .i64 a1, .int .i64 a2, .int .i64 a3, .bool a4]) (.agg #[.int .i64 b0, .int .i64 b1, .int .i64 b2, .int .i64 b3, .bool b4])).run Tryz.prog w= .ok (decide ((a0=b0∧a1=b1∧a2=b2)∧a3=b3∧a4=b4)) w:=by
 rw [show d+3=(d+2)+1 from rfl,run_equalIn_struct w (d+2) 138 _ _ (by kernel_rfl) (by kernel_rfl),Id Tryz.underlying138]
 exact G7 (by decide) (Zu Eu w rfl) (Zu Eu w rfl) (S8 (d) w _ _ _ _ _ _) (G7 (by decide) (Dx Ai w rfl) (Dx Ai w rfl) (Gm (d+1) 3 Tryz.underlying3 _ _) (Mc (by decide) (Dx Kq w rfl) (Dx Kq w rfl) (Ab5 (d+1) 4 Tryz.underlying4 _ _)))
theorem Yk {t':TypeId} {o:Oper} {e:Operand→S} {h:Xh} {x y:Operand} {a0:Int} {a1:Int} {a2:Int} {a3:Int} {a4:Bool} {b0:Int} {b1:Int} {b2:Int} {b3:Int} {b4:Bool} (ho:o.op= .binOp .neq 138 x y t') (hx:e x= .d (.agg [.v (.int .i64 a0), .v (.int .i64 a1), .v (.int .i64 a2), .v (.int .i64 a3), .v (.bool a4)])) (hy:e y= .d (.agg [.v (.int .i64 b0), .v (.int .i64 b1), .v (.int .i64 b2), .v (.int .i64 b3), .v (.bool b4)])):Bv Tryz.prog o e h (.d (.v (.bool (decide (¬((a0=b0∧a1=b1∧a2=b2)∧a3=b3∧a4=b4)))))):=by
 refine Gh ho hx hy rfl rfl (by kernel_rfl) fun w=> ?_
 refine (run_neq_struct w 138 #[.int .i64 a0, .int .i64 a1, .int .i64 a2, .int .i64 a3, .bool a4] #[.int .i64 b0, .int .i64 b1, .int .i64 b2, .int .i64 b3, .bool b4]).trans ?_
 have hq:=Apo 9997 w a0 a1 a2 a3 a4 b0 b1 b2 b3 b4
 simp only [Nat.reduceAdd] at hq
 rw [hq]
 simp only [Result.andThen_ok,decide_not]
theorem Ab4 (d:Nat) (w:World) (a0:ByteArray) (a1:Int) (b0:ByteArray) (b1:Int):(Op.equalIn (d+2) 140 (.agg #[.string a0, .int .i64 a1]) (.agg #[.string b0, .int .i64 b1])).run Tryz.prog w= .ok (decide (a0.toList=b0.toList∧a1=b1)) w:=by
 rw [show d+2=(d+1)+1 from rfl,run_equalIn_struct w (d+1) 140 _ _ (by kernel_rfl) (by kernel_rfl),Id Tryz.underlying140]
 exact G7 (by decide) (Dx Lx w rfl) (Dx Lx w rfl) (Asw (d+0) 9 Tryz.underlying9 _ _) (Mc (by decide) (Dx Ai w rfl) (Dx Ai w rfl) (Gm (d+0) 3 Tryz.underlying3 _ _))
theorem Al5 {t':TypeId} {o:Oper} {e:Operand→S} {h:Xh} {x y:Operand} {a0:ByteArray} {a1:Int} {b0:ByteArray} {b1:Int} (ho:o.op= .binOp .eql 140 x y t') (hx:e x= .d (.agg [.v (.string a0), .v (.int .i64 a1)])) (hy:e y= .d (.agg [.v (.string b0), .v (.int .i64 b1)])):Bv Tryz.prog o e h (.d (.v (.bool (decide (a0.toList=b0.toList∧a1=b1))))):=by
 refine Gh ho hx hy rfl rfl (by kernel_rfl) fun w=> ?_
 refine (run_eql_struct w 140 #[.string a0, .int .i64 a1] #[.string b0, .int .i64 b1]).trans ?_
 have hq:=Ab4 9998 w a0 a1 b0 b1
 simp only [Nat.reduceAdd] at hq
 rw [hq]
 simp only [Result.andThen_ok]
theorem Yj {t':TypeId} {o:Oper} {e:Operand→S} {h:Xh} {x y:Operand} {a0:ByteArray} {a1:Int} {b0:ByteArray} {b1:Int} (ho:o.op= .binOp .neq 140 x y t') (hx:e x= .d (.agg [.v (.string a0), .v (.int .i64 a1)])) (hy:e y= .d (.agg [.v (.string b0), .v (.int .i64 b1)])):Bv Tryz.prog o e h (.d (.v (.bool (decide (¬(a0.toList=b0.toList∧a1=b1)))))):=by
 refine Gh ho hx hy rfl rfl (by kernel_rfl) fun w=> ?_
 refine (run_neq_struct w 140 #[.string a0, .int .i64 a1] #[.string b0, .int .i64 b1]).trans ?_
 have hq:=Ab4 9998 w a0 a1 b0 b1
 simp only [Nat.reduceAdd] at hq
 rw [hq]
 simp only [Result.andThen_ok,decide_not]
end Go.Proofs.YtcihalbakenleaaGreat
namespace Go.Proofs.YtcihalbakenleaaGreat
open Go.RowKit
def B1 (n m:Int):Int:=if n<0∨m<n then 2 else 0
theorem U5 {n m:Int} (h:n<0∨m<n):2=B1 n m:=by rw [B1,if_pos h]
theorem Aix {n m:Int} (h:¬n<0) (h':¬m<n):0=B1 n m:=by rw [B1,if_neg (by omega)]
theorem Db (n m:Int):XC Tryz.prog 116 [.v (.int .i64 n), .v (.int .i64 m)] (fun r=>r=dI (B1 n m)):=by
 refine Ao Aef Tryz.func116 R R lb<|zr<|za R R<|zn<|zs<|zr<|zm R R<|zp (Ar R R R)<|zm R R<|?_
 refine XL.dec 7 R (fun g7=> ?_) (fun g7=> ?_)
 exact zk 3 R<|zq R R R<|zn<|Aq (by kernel_rfl) R<|zr<|za R R<|zn<|zt<|z1 R R (rI (U5 (by omega)))
 refine zm R R<|zm R R<|zp (A8 R R R)<|zq R R R<|zn<|?_
 refine zd R (fun c11=> ?_) (fun c11=> ?_)
 exact zr<|za R R<|zn<|zt<|z1 R R (rI (U5 (by omega)))
 exact zi<|zr<|za R R<|zn<|zt<|z1 R R (rI (Aix g7 c11))
def Da:List Int→Int
 | []=>0
 |e::l=>if e≠0 then e else Da l
theorem Afk {l:List Int} {k:Nat} {x:Int} (h:l[k]? =some x) (hx:¬x≠0):Da (l.drop k)=Da (l.drop (k+1)):=by rw [C0 h,Da,if_neg hx]
theorem Akb {l:List Int} {k:Nat} {x:Int} (h:l[k]? =some x) (hx:x≠0):Da (l.drop k)=x:=by rw [C0 h,Da,if_pos hx]
theorem Akc {l:List Int} {k:Nat} (h:k=l.length):Da (l.drop k)=0:=by rw [h,List.drop_length];rfl
theorem Ka (l:List Int):XC Tryz.prog 115 [.sl 1 (B8 l)] (fun r=>r=dI (Da l)):=by
 refine Ao Aeg Tryz.func115 R R lb<|zr<|za R R<|zn<|zs<|zr<|zm R R<|XL.len R R R Tryz.underlying180 fun hl6=>zm R R<|zn<|Ah<|?_
 refine Ax (α:=Nat) (fun k=>k≤l.length∧Da (l.drop k)=Da l) (fun k=>mkF [(5, .d (.sl 1 (B8 l))),(6, .d (dI l.length)),(7, .d (dI k))]) (fun k=>mkH []) (fun k=>l.length - k) (0) (⟨Nat.zero_le _,by rw [List.drop_zero]⟩) ?_ ?_ ?_
 exact fz ⟨sr,sr,sr,trivial⟩
 exact HSub.nil
 intro k hk0
 obtain ⟨hk,hf⟩:=hk0
 refine zr<|zp (Ar R R R)<|zn<|zs<|?_
 refine zd R (fun c8=> ?_) (fun c8=> ?_)
 have hk0a:k<l.length:=by omega
 obtain ⟨x0,hx0⟩:=At hk0a
 refine zi<|zs<|Ah<|zr<|zp (Am R R R Auq hx0)<|zp (A0 R R Avc)<|za R R<|znr<|zm R R<|zp (Bg R R R)<|zn<|?_
 refine zd R (fun c12=> ?_) (fun c12=> ?_)
 exact zr<|zm R R<|za R R<|zn<|zt<|z1 R R (rI (by rw [←hf,Akb hx0 c12]))
 refine zi<|Af (by kernel_rfl)<|zp (Aj R R R (by omega) (by omega))<|zm R R<|zn<|?_
 exact Ak (k+1) (⟨by omega,by rw [←Afk hx0 c12];exact hf⟩) (by omega) (fz ⟨sr,sr,sr,trivial⟩) (HSub.nil)
 have hk0b:k=l.length:=by omega
 exact An<|zr<|za R R<|zn<|zt<|z1 R R (rI (by rw [←hf,Akc hk0b]))
def Ie (h:Hd):Int:=Da [h.p.err,B1 h.sh 2]
theorem Aqw (h:Hd):XC Tryz.prog 152 [.agg (Hd.c h)] (fun r=>r=dI (Ie h)):=by
 refine Ao Adg Tryz.func152 R R lb<|zr<|XL.step R (Au 1 (l:= [.d (dI h.p.step), .d (dI h.p.alter), .d (dI h.p.oct), .d (dB h.tied), .d (dI h.sh)]) R R (by kernel_rfl))<|za R R<|znr<|zp (Aa R R Gi)<|zp (Ae (s':= .d (.agg (Pit.c h.p))) (Ac (Ad R R Eu R lb)) (by kernel_rfl))<|XL.call1 R R (Q9 _) R<|zm R R<|zp (Bc R R R)<|zp (Bc R R R)<|?_
 exact za R R<|za R R<|znr<|zm R R<|zp (Aa R R Q7)<|zp (Ab R R Ai R R)<|XL.call1 R R (Db _ _) R<|XL.step R (K5 (l:=B8 [h.p.err,(B1 h.sh 2)]) R Tryz.underlying180 Oi K4 (by kernel_rfl) R (by omega) (by omega))<|XL.call1 R R (Ka _) R<|za R R<|zn<|zt<|z1 R R (R)
def Ki (l:List Hd):Int:=match l.getLast? with|some h=>h.p.num|none=> -1
theorem J5 {l:List Hd} {k:Nat} {x:Hd} (h:l[k]? =some x):Ki (l.take (k+1))=x.p.num:=by rw [Bo h,Ki,List.getLast?_concat]
def E0 (last:Int):List Hd→Int
 | []=>0
 |h::t=>if Ie h≠0 then Ie h else if h.p.num≤last then 25 else E0 h.p.num t
def Cy (l:List Hd):Int:=if l.length=0 then 4 else if 10<l.length then 9 else E0 (-1) l
theorem H9 {l:List Hd} (h1:¬(l.length:Int)=0) (h2:¬10<(l.length:Int)):Cy l=E0 (-1) l:=by rw [Cy,if_neg (by omega),if_neg (by omega)]
theorem Abs (l:List Hd):XC Tryz.prog 121 [.sl 5 (l.map Hd.c)] (fun r=>r=dI (Cy l)):=by
 refine Ao Aea Tryz.func121 R R lb<|zr<|za R R<|zn<|zs<|Ah<|zr<|zm R R<|XL.len R R R Tryz.underlying48 fun hl11=>zp (A1 R R R)<|za R R<|zn<|?_
 refine zd R (fun c9=> ?_) (fun c9=> ?_)
 exact zr<|za R R<|zn<|zt<|z1 R R (rI (by rw [Cy,if_pos (by omega)]))
 refine zr<|zm R R<|XL.len R R R Tryz.underlying48 fun hl15=>zp (A8 R R R)<|za R R<|zn<|?_
 refine zd R (fun c13=> ?_) (fun c13=> ?_)
 exact zr<|za R R<|zn<|zt<|z1 R R (rI (by rw [Cy,if_neg (by omega),if_pos (by omega)]))
 refine zi<|zr<|za R R<|zn<|zs<|zr<|zm R R<|XL.len R R R Tryz.underlying48 fun hl18=>zm R R<|zn<|Ah<|?_
 refine Ax (α:=Nat) (fun k=>k≤l.length∧E0 (Ki (l.take k)) (l.drop k)=E0 (-1) l) (fun k=>mkF [(3, .d (dI (Ki (l.take k)))),(17, .d (.sl 5 (l.map Hd.c))),(18, .d (dI l.length)),(19, .d (dI k))]) (fun k=>mkH []) (fun k=>l.length - k) (0) (⟨Nat.zero_le _,by rw [List.drop_zero];rfl⟩) ?_ ?_ ?_
 exact fz ⟨sr,sr,sr,sr,trivial⟩
 exact HSub.nil
 intro k hk1
 obtain ⟨hk,hf⟩:=hk1
 refine zr<|zp (Ar R R R)<|zn<|zs<|?_
 refine zd R (fun c20=> ?_) (fun c20=> ?_)
 have hk1a:k<l.length:=by omega
 obtain ⟨x1,hx1⟩:=At hk1a
 rw [C0 hx1,E0] at hf
 refine zi<|zs<|Ah<|zr<|zp (Am R R R Fg hx1)<|zp (Ae (s':= .d (.agg (Hd.c x1))) (Av R R Kd lb) (by kernel_rfl))<|XL.step R (A4 5 (l:= [.d (dI 0), .d (dI 0), .d (dI 0), .d (dB false), .d (dI 0)]) R Hy (by kernel_rfl))<|?_
 refine XL.step R (Ag (l':= [.d (dI x1.p.step), .d (dI x1.p.alter), .d (dI x1.p.oct), .d (dB x1.tied), .d (dI x1.sh)]) R R R R M2 R lb (by kernel_rfl))<|zn<|zs<|zr<|zp (Ae (s':= .d (.agg (Hd.c x1))) (Ac (Ad R R Kd R lb)) (by kernel_rfl))<|XL.call1 R R (Aqw _) R<|za R R<|znr<|zm R R<|zp (Bg R R R)<|zn<|?_
 refine zd R (fun c26=> ?_) (fun c26=> ?_)
 exact zr<|zm R R<|za R R<|zn<|zt<|z1 R R (rI (by rw [H9 c9 c13, ←hf,if_pos c26]))
 refine zi<|zr<|zp (Aa R R Gi)<|zp (Ae (s':= .d (.agg (Pit.c x1.p))) (Ac (Ad R R Eu R lb)) (by kernel_rfl))<|XL.call1 R R (Q9 _) R<|zm R R<|zp (Bc R R R)<|zp (Bc R R R)<|za R R<|za R R<|zn<|zs<|zr<|zm R R<|?_
 refine zm R R<|zp (Ft R R R)<|zn<|?_
 refine zd R (fun c36=> ?_) (fun c36=> ?_)
 exact zr<|za R R<|zn<|zt<|z1 R R (rI (by rw [H9 c9 c13, ←hf,if_neg c26,if_pos c36]))
 refine zi<|Af (by kernel_rfl)<|zm R R<|za R R<|zn<|Af (by kernel_rfl)<|zp (Aj R R R (by omega) (by omega))<|zm R R<|zn<|?_
 exact Ak (k+1) (⟨by omega,by rw [if_neg c26,if_neg c36] at hf;rw [J5 hx1];exact hf⟩) (by omega) (fz ⟨.same (sI (J5 hx1).symm),sr,sr,sr,trivial⟩) (HSub.nil)
 have hk1b:k=l.length:=by omega
 exact An<|zr<|za R R<|zn<|zt<|z1 R R (rI (by rw [H9 c9 c13, ←hf,hk1b,List.drop_length];rfl))
def Je:List Gr→Int
 | []=>0
 |g::t=>if g.p.err≠0 then g.p.err else if g.log<1∨6<g.log then 2 else Je t
def Fm (l:List Gr):Int:=if 8<l.length then 9 else Je l
theorem Hq {l:List Gr} (h2:¬8<(l.length:Int)):Fm l=Je l:=by rw [Fm,if_neg (by omega)]
theorem Y8 (l:List Gr):XC Tryz.prog 122 [.sl 5 (l.map Gr.c)] (fun r=>r=dI (Fm l)):=by
 refine Ao Ad9 Tryz.func122 R R lb<|zr<|za R R<|zn<|zs<|zr<|zm R R<|XL.len R R R Tryz.underlying57 fun hl8=>zp (A8 R R R)<|zn<|?_
 refine zd R (fun c9=> ?_) (fun c9=> ?_)
 exact zr<|za R R<|zn<|zt<|z1 R R (rI (by rw [Fm,if_pos (by omega)]))
 refine zi<|zs<|zr<|zm R R<|XL.len R R R Tryz.underlying57 fun hl11=>zm R R<|zn<|Ah<|?_
 refine Ax (α:=Nat) (fun k=>k≤l.length∧Je (l.drop k)=Je l) (fun k=>mkF [(10, .d (.sl 5 (l.map Gr.c))),(11, .d (dI l.length)),(12, .d (dI k))]) (fun k=>mkH []) (fun k=>l.length - k) (0) (⟨Nat.zero_le _,by rw [List.drop_zero]⟩) ?_ ?_ ?_
 exact fz ⟨sr,sr,sr,trivial⟩
 exact HSub.nil
 intro k hk0
 obtain ⟨hk,hf⟩:=hk0
 refine zr<|zp (Ar R R R)<|zn<|zs<|?_
 refine zd R (fun c13=> ?_) (fun c13=> ?_)
 have hk0a:k<l.length:=by omega
 obtain ⟨x0,hx0⟩:=At hk0a
 rw [C0 hx0,Je] at hf
 refine zi<|zs<|Ah<|zr<|zp (Am R R R Ra hx0)<|zp (Ae (s':= .d (.agg (Gr.c x0))) (Av R R P6 lb) (by kernel_rfl))<|XL.step R (A4 4 (l:= [.d (dI 0), .d (dI 0), .d (dI 0), .d (dI 0), .d (dB false)]) R Z7 (by kernel_rfl))<|?_
 refine XL.step R (Ag (l':= [.d (dI x0.p.step), .d (dI x0.p.alter), .d (dI x0.p.oct), .d (dI x0.log), .d (dB x0.slash)]) R R R R Ak8 R lb (by kernel_rfl))<|zn<|zs<|zr<|zp (Aa R R Y9)<|zp (Ae (s':= .d (.agg (Pit.c x0.p))) (Ac (Ad R R Eu R lb)) (by kernel_rfl))<|XL.call1 R R (Q9 _) R<|zm R R<|zp (Bc R R R)<|zp (Bc R R R)<|za R R<|za R R<|znr<|?_
 refine zm R R<|zp (Bg R R R)<|zn<|?_
 refine zd R (fun c23=> ?_) (fun c23=> ?_)
 exact zr<|zm R R<|za R R<|zn<|zt<|z1 R R (rI (by rw [Hq c9, ←hf,if_pos c23]))
 refine zi<|zr<|zp (Aa R R Sb)<|zp (Ab R R Ai R R)<|zp (Ar R R R)<|zm R R<|?_
 refine XL.dec 28 R (fun g28=> ?_) (fun g28=> ?_)
 exact zk 3 R<|zq R R R<|zn<|Aq (by kernel_rfl) R<|zr<|za R R<|zn<|zt<|z1 R R (rI (by rw [Hq c9, ←hf,if_neg c23,if_pos (by omega)]))
 refine zp (Aa R R Sb)<|zp (Ab R R Ai R R)<|zp (A8 R R R)<|zq R R R<|zn<|?_
 refine zd R (fun c32=> ?_) (fun c32=> ?_)
 exact zr<|za R R<|zn<|zt<|z1 R R (rI (by rw [Hq c9, ←hf,if_neg c23,if_pos (by omega)]))
 refine zi<|Af (by kernel_rfl)<|zp (Aj R R R (by omega) (by omega))<|zm R R<|zn<|?_
 exact Ak (k+1) (⟨by omega,by rw [if_neg c23,if_neg (by omega)] at hf;exact hf⟩) (by omega) (fz ⟨sr,sr,sr,trivial⟩) (HSub.nil)
 have hk0b:k=l.length:=by omega
 exact An<|zr<|za R R<|zn<|zt<|z1 R R (rI (by rw [Hq c9, ←hf,hk0b,List.drop_length];rfl))
def H3 (b:UInt8):Prop:=(b.toNat:Int)<32∨(b.toNat:Int)=127
instance (b:UInt8):Decidable (H3 b):=by unfold H3;exact inferInstance
def Gq (s:Sy):Int:=if s.link<0∨2<s.link then 2 else if 256<s.text.length then 5 else if ∃b∈s.text,H3 b then 6 else if s.text= []∧s.link=1 then 3 else 0
theorem Fk (l:List UInt8):(ByteArray.mk l.toArray).size=l.length:=rfl
theorem Wz {s:Sy} {k:Nat} {b:UInt8} (h1:¬s.link<0) (h2:¬2<s.link) (h3:¬256<(s.text.length:Int)) (h:s.text[k]? =some b) (hb:H3 b):6=Gq s:=by
 rw [Gq,if_neg (by omega),if_neg (by omega),if_pos ⟨b,List.mem_of_getElem? h,hb⟩]
theorem Ahm {s:Sy} (h1:¬s.link<0) (h2:¬2<s.link) (h3:¬256<(s.text.length:Int)) (h:∀j b,j<s.text.length→s.text[j]? =some b→¬H3 b):Gq s=if s.text= []∧s.link=1 then 3 else 0:=by
 rw [Gq,if_neg (by omega),if_neg (by omega),if_neg]
 rintro ⟨b,hb,h4⟩
 obtain ⟨j,hj⟩:=List.getElem?_of_mem hb
 exact h j b (List.getElem?_eq_some_iff.1 hj).1 hj h4
theorem Lu {l:List UInt8}:((ByteArray.mk l.toArray).toList==(ByteArray.mk #[]).toList)=decide (l= []):=by
 rw [Ml,show (ByteArray.mk #[]).toList= [] from Ml []]
 by_cases h:l= []<;>simp [h]
end Go.Proofs.YtcihalbakenleaaGreat
namespace Go.Proofs.YtcihalbakenleaaGreat
open Go.RowKit
theorem Ais {b:UInt8} (h:(b.toNat:Int)<32):H3 b:= .inl h
theorem Aev {b:UInt8} (h:(b.toNat:Int)=127):H3 b:= .inr h
theorem Air {b:UInt8} (h:¬(b.toNat:Int)<32) (h':¬(b.toNat:Int)=127):¬H3 b:=fun h2=>h2.elim h h'
theorem As9 (s:Sy):XC Tryz.prog 154 [.agg (Sy.c s)] (fun r=>r=dI (Gq s)):=by
 refine Ao Ade Tryz.func154 R R lb<|zr<|XL.step R (Au 1 (l:= [.d (.v (.string ⟨s.text.toArray⟩)), .d (dI s.link)]) R R (by kernel_rfl))<|za R R<|zn<|zs<|Ah<|zr<|zp (Aa R R Lb)<|zp (Ab R R Ai R R)<|zp (Ar R R R)<|zm R R<|?_
 refine XL.dec 8 R (fun g8=> ?_) (fun g8=> ?_)
 exact zk 3 R<|zq R R R<|za R R<|zn<|Aq (by kernel_rfl) R<|zr<|za R R<|zn<|zt<|z1 R R (rI (by rw [Gq,if_pos (by omega)]))
 refine zp (Aa R R Lb)<|zp (Ab R R Ai R R)<|zp (A8 R R R)<|zq R R R<|za R R<|zn<|?_
 refine zd R (fun c4=> ?_) (fun c4=> ?_)
 exact zr<|za R R<|zn<|zt<|z1 R R (rI (by rw [Gq,if_pos (by omega)]))
 refine zr<|zp (Aa R R Gw)<|zp (Ab R R Lx R R)<|zp (Oq R R Tryz.underlying9)<|zp (A8 R R R)<|za R R<|zn<|?_
 refine zd R (fun c13=> ?_) (fun c13=> ?_)
 exact zr<|za R R<|zn<|zt<|z1 R R (rI (by rw [Gq,if_neg (by omega),if_pos (by have:=c13;rw [Fk] at this;omega)]))
 refine zi<|zs<|zr<|zp (Aa R R Gw)<|zp (Ab R R Lx R R)<|zp (Oq R R Tryz.underlying9)<|zm R R<|zn<|Ah<|?_
 refine Ax (α:=Nat) (fun k=>k≤s.text.length∧∀j b,j<k→s.text[j]? =some b→¬H3 b) (fun k=>mkF [(1, .ptr 1 0 0),(20, .d (dI s.text.length)),(21, .d (dI k))]) (fun k=>mkH [(1, .box ((Sy.c s).map S.d))]) (fun k=>s.text.length - k) (0) (⟨Nat.zero_le _,fun j b h=>absurd h (Nat.not_lt_zero _)⟩) ?_ ?_ ?_
 exact fz ⟨sr, .same (sI (by rw [Fk])),sr,trivial⟩
 exact gz ⟨R,trivial⟩
 intro k hk1
 obtain ⟨hk,hf⟩:=hk1
 refine zr<|zp (Ar R R R)<|zn<|zs<|?_
 refine zd R (fun c22=> ?_) (fun c22=> ?_)
 have hkl:k<s.text.length:=by omega
 have hsz:(s.text.length:Int)≤256:=by have:=c13;rw [Fk] at this;omega
 obtain ⟨b,hb⟩:=At hkl
 refine zi<|zs<|Ah<|zr<|zm R R<|za R R<|znr<|zp (Aa R R Gw)<|zp (Ab R R Lx R R)<|zm R R<|zp (V7 R R R Tryz.underlying9 (Qa hb))<|zp (Ar R R R)<|zm R R<|?_
 refine XL.dec 29 R (fun g29=> ?_) (fun g29=> ?_)
 exact zk 5 R<|zq R R R<|zn<|Aq (by kernel_rfl) R<|zr<|za R R<|zn<|zt<|z1 R R (rI (Wz g8 c4 (by rw [←Fk];exact c13) hb (Ais g29)))
 refine zp (Aa R R Gw)<|zp (Ab R R Lx R R)<|zm R R<|zp (V7 R R R Tryz.underlying9 (Qa hb))<|zp (A1 R R R)<|zq R R R<|zn<|?_
 refine zd R (fun c35=> ?_) (fun c35=> ?_)
 exact zr<|za R R<|zn<|zt<|z1 R R (rI (Wz g8 c4 (by rw [←Fk];exact c13) hb (Aev c35)))
 refine zi<|Af (by kernel_rfl)<|zp (Aj R R R (by omega) (by omega))<|zm R R<|zn<|?_
 exact Ak (k+1) (⟨by omega,fun j b' hj hb'=>by by_cases e:j=k;(· subst e;rw [hb] at hb';cases hb';exact Air g29 c35);(· exact hf j b' (by omega) hb')⟩) (by omega) (fz ⟨sr,sr,sr,trivial⟩) (gz ⟨rfl,trivial⟩)
 have hke:k=s.text.length:=by omega
 have he:=Ahm g8 c4 (by rw [←Fk];exact c13) (fun j b hj=>hf j b (by omega))
 refine An<|zs<|zr<|zp (Aa R R Gw)<|zp (Ab R R Lx R R)<|zp (W8 R R R)<|zm R R<|?_
 refine XL.bool 40 R (fun g40=> ?_) (fun g40=> ?_)
 refine zp (Aa R R Lb)<|zp (Ab R R Ai R R)<|zp (A1 R R R)<|zq R R R<|zn<|?_
 refine zd R (fun c44=> ?_) (fun c44=> ?_)
 exact zr<|za R R<|zn<|zt<|z1 R R (rI (by rw [Lu] at g40;rw [he,if_pos ⟨of_decide_eq_true g40,c44⟩]))
 exact zi<|zr<|za R R<|zn<|zt<|z1 R R (rI (by rw [he,if_neg (fun h=>c44 h.2)]))
 exact zk 3 R<|zq R R R<|zn<|A7 (by kernel_rfl) R<|zi<|zr<|za R R<|zn<|zt<|z1 R R (rI (by rw [Lu] at g40;rw [he,if_neg (fun h=>of_decide_eq_false g40 h.1)]))
def Sy.none (s:Sy):Prop:=s.text= []∧s.link=0
instance (s:Sy):Decidable s.none:=by unfold Sy.none;exact inferInstance
theorem Ane (s:Sy):XC Tryz.prog 155 [.agg (Sy.c s)] (fun r=>r=dB (decide s.none)):=by
 refine Ao Add Tryz.func155 R R lb<|zr<|XL.step R (Au 1 (l:= [.d (.v (.string ⟨s.text.toArray⟩)), .d (dI s.link)]) R R (by kernel_rfl))<|za R R<|znr<|zp (Ae (s':= .d (.agg (Sy.c s))) (Ac (Ad R R Jp R lb)) (by kernel_rfl))<|zp (Ae (s':= .d (.agg [.v (.string ⟨#[]⟩),dI 0])) (Ac (Ba R Aq9 P7 R)) (by kernel_rfl))<|?_
 exact zp (Al5 R R R)<|za R R<|zn<|zt<|z1 R R (rB (by rw [decide_eq_decide,Ml,show (ByteArray.mk #[]).toList= [] from Ml []];rfl))
def Hx (l:List Sy):Int:=Da (l.map Gq)
theorem Qz {l:List Sy} {k:Nat} {x:Sy} (h:l[k]? =some x) (hx:¬Gq x≠0):Hx (l.drop k)=Hx (l.drop (k+1)):=by rw [C0 h,Hx,List.map_cons,Da,if_neg hx];rfl
theorem Y0 {l:List Sy} {k:Nat} {x:Sy} (h:l[k]? =some x) (hx:Gq x≠0):Hx (l.drop k)=Gq x:=by rw [C0 h,Hx,List.map_cons,Da,if_pos hx]
def Jc (l:List Sy):Prop:=match l.getLast? with|some s=>s.none|none=>False
instance (l:List Sy):Decidable (Jc l):=by unfold Jc;split<;>exact inferInstance
def Ho (l:List Sy):Int:=if 4<l.length then 9 else if Hx l≠0 then Hx l else if Jc l then 3 else 0
theorem Oy {l:List Sy} (h1:¬4<(l.length:Int)):Ho l=if Hx l≠0 then Hx l else if Jc l then 3 else 0:=by rw [Ho,if_neg (by omega)]
theorem Mg {l:List Sy} {s:Sy} (h:l[l.length - 1]? =some s):Jc l↔s.none:=by unfold Jc;rw [List.getLast?_eq_getElem?,h]
theorem R7 {l:List Sy} (h:¬0<(l.length:Int)):¬Jc l:=by
 have:l= []:=List.eq_nil_of_length_eq_zero (by omega)
 subst this;exact fun h=>h
theorem Yz (l:List Sy):XC Tryz.prog 123 [.sl 2 (l.map Sy.c)] (fun r=>r=dI (Ho l)):=by
 refine Ao Ad8 Tryz.func123 R R lb<|zr<|za R R<|zn<|zs<|zr<|zm R R<|XL.len R R R Tryz.underlying58 fun hl8=>zp (A8 R R R)<|zn<|?_
 refine zd R (fun c9=> ?_) (fun c9=> ?_)
 exact zr<|za R R<|zn<|zt<|z1 R R (rI (by rw [Ho,if_pos (by omega)]))
 refine zi<|zs<|zr<|zm R R<|XL.len R R R Tryz.underlying58 fun hl11=>zm R R<|zn<|Ah<|?_
 refine Ax (α:=Nat) (fun k=>k≤l.length∧Hx (l.drop k)=Hx l) (fun k=>mkF [(0, .d (.sl 2 (l.map Sy.c))),(10, .d (.sl 2 (l.map Sy.c))),(11, .d (dI l.length)),(12, .d (dI k))]) (fun k=>mkH []) (fun k=>l.length - k) (0) (⟨Nat.zero_le _,by rw [List.drop_zero]⟩) ?_ ?_ ?_
 exact fz ⟨sr,sr,sr,sr,trivial⟩
 exact HSub.nil
 intro k hk0
 obtain ⟨hk,hf⟩:=hk0
 refine zr<|zp (Ar R R R)<|zn<|zs<|?_
 refine zd R (fun c13=> ?_) (fun c13=> ?_)
 have hk0a:k<l.length:=by omega
 obtain ⟨x0,hx0⟩:=At hk0a
 refine zi<|zs<|Ah<|zr<|zp (Am R R R O8 hx0)<|zp (Ae (s':= .d (.agg (Sy.c x0))) (Av R R Jp lb) (by kernel_rfl))<|XL.step R (A4 4 (l:= [.d (.v (.string ⟨#[]⟩)), .d (dI 0)]) R P7 (by kernel_rfl))<|XL.step R (Ag (l':= [.d (.v (.string ⟨x0.text.toArray⟩)), .d (dI x0.link)]) R R R R Aai R lb (by kernel_rfl))<|znr<|?_
 refine zp (Ae (s':= .d (.agg (Sy.c x0))) (Ac (Ad R R Jp R lb)) (by kernel_rfl))<|XL.call1 R R (As9 _) R<|za R R<|znr<|zm R R<|zp (Bg R R R)<|zn<|?_
 refine zd R (fun c19=> ?_) (fun c19=> ?_)
 exact zr<|zm R R<|za R R<|zn<|zt<|z1 R R (rI (by rw [Oy c9, ←hf,Y0 hx0 c19,if_pos c19]))
 refine zi<|Af (by kernel_rfl)<|zp (Aj R R R (by omega) (by omega))<|zm R R<|zn<|?_
 exact Ak (k+1) (⟨by omega,by rw [←Qz hx0 c19];exact hf⟩) (by omega) (fz ⟨sr,sr,sr,sr,trivial⟩) (HSub.nil)
 have hk0b:k=l.length:=by omega
 have hz:Hx l=0:=by rw [←hf,hk0b,List.drop_length];rfl
 have hz2:Ho l=if Jc l then 3 else 0:=by rw [Oy c9,hz,if_neg (by simp)]
 refine An<|zs<|zr<|zm R R<|XL.len R R R Tryz.underlying58 fun hl23=>za R R<|znr<|zm R R<|zp (A8 R R R)<|zm R R<|?_
 refine XL.dec 26 R (fun g26=> ?_) (fun g26=> ?_)
 obtain ⟨s,hs⟩:∃s,l[l.length - 1]? =some s:=At (by omega)
 refine zm R R<|zm R R<|zp (C7 R R R (by omega) (by omega))<|zp (Gt R R R (by omega:(l.length:Int) - 1=((l.length - 1:Nat):Int)) O8 hs)<|zp (Ae (s':= .d (.agg (Sy.c s))) (Av R R Jp lb) (by kernel_rfl))<|XL.call1 R R (Ane _) R<|zq R R R<|zn<|?_
 refine zd R (fun c33=> ?_) (fun c33=> ?_)
 exact zr<|za R R<|zn<|zt<|z1 R R (rI (by rw [hz2,if_pos ((Mg hs).2 c33)]))
 exact zi<|zr<|za R R<|zn<|zt<|z1 R R (rI (by rw [hz2,if_neg (fun h=>c33 ((Mg hs).1 h))]))
 exact zk 6 R<|zq R R R<|zn<|A7 (by kernel_rfl) R<|zi<|zr<|za R R<|zn<|zt<|z1 R R (rI (by rw [hz2,if_neg (R7 g26)]))
theorem Iy {α:Type} {a b:List α} (hl:a.length=b.length) (h:∀j x y,j<a.length→a[j]? =some x→b[j]? =some y→x=y):a=b:=by
 refine List.ext_getElem? fun j=> ?_
 by_cases hj:j<a.length
 ·have h1:a[j]? =some a[j]:=List.getElem?_eq_getElem hj
  have h2 : b[j]? = some (b[j]'(by omega)) := List.getElem?_eq_getElem (by omega)
  rw [h1,h2,h j _ _ hj h1 h2]
 ·rw [List.getElem?_eq_none (by omega),List.getElem?_eq_none (by omega)]
theorem S9 {α:Type} [DecidableEq α] {a b:List α} (h:a≠b):false=decide (a=b):=by rw [decide_eq_false h]
theorem Ab6 {α:Type} [DecidableEq α] {a b:List α} (h:a=b):true=decide (a=b):=by rw [decide_eq_true h]
theorem Hd.eq_of {x y:Hd} (h:¬ ¬((x.p.step=y.p.step∧x.p.alter=y.p.alter∧x.p.oct=y.p.oct)∧x.tied=y.tied∧x.sh=y.sh)):x=y:=by
 obtain ⟨⟨a,b,c⟩,d,e⟩:=x;obtain ⟨⟨a',b',c'⟩,d',e'⟩:=y;simp only [Decidable.not_not] at h;obtain ⟨⟨rfl,rfl,rfl⟩,rfl,rfl⟩:=h;rfl
theorem Hd.ne_of {x y:Hd} (h:¬((x.p.step=y.p.step∧x.p.alter=y.p.alter∧x.p.oct=y.p.oct)∧x.tied=y.tied∧x.sh=y.sh)):x≠y:=by rintro rfl;exact h ⟨⟨rfl,rfl,rfl⟩,rfl,rfl⟩
theorem Gr.eq_of {x y:Gr} (h:¬ ¬((x.p.step=y.p.step∧x.p.alter=y.p.alter∧x.p.oct=y.p.oct)∧x.log=y.log∧x.slash=y.slash)):x=y:=by
 obtain ⟨⟨a,b,c⟩,d,e⟩:=x;obtain ⟨⟨a',b',c'⟩,d',e'⟩:=y;simp only [Decidable.not_not] at h;obtain ⟨⟨rfl,rfl,rfl⟩,rfl,rfl⟩:=h;rfl
theorem Gr.ne_of {x y:Gr} (h:¬((x.p.step=y.p.step∧x.p.alter=y.p.alter∧x.p.oct=y.p.oct)∧x.log=y.log∧x.slash=y.slash)):x≠y:=by rintro rfl;exact h ⟨⟨rfl,rfl,rfl⟩,rfl,rfl⟩
theorem Sy.eq_of {x y:Sy} (h:¬ ¬((ByteArray.mk x.text.toArray).toList=(ByteArray.mk y.text.toArray).toList∧x.link=y.link)):x=y:=by
 obtain ⟨a,b⟩:=x;obtain ⟨a',b'⟩:=y;simp only [Decidable.not_not,Ml] at h;obtain ⟨rfl,rfl⟩:=h;rfl
theorem Sy.ne_of {x y:Sy} (h:¬((ByteArray.mk x.text.toArray).toList=(ByteArray.mk y.text.toArray).toList∧x.link=y.link)):x≠y:=by rintro rfl;exact h ⟨rfl,rfl⟩
theorem Apm (a b:List Hd):XC Tryz.prog 148 [.sl 5 (a.map Hd.c), .sl 5 (b.map Hd.c)] (fun r=>r=dB (decide (a=b))):=by
 refine Ao Adk Tryz.func148 R R lb<|zr<|za R R<|zn<|zs<|zr<|zm R R<|XL.len R R R Tryz.underlying48 fun hl7=>zm R R<|XL.len R R R Tryz.underlying48 fun hl9=>zp (Bg R R R)<|zn<|?_
 refine zd R (fun c10=> ?_) (fun c10=> ?_)
 exact zr<|za R R<|zn<|zt<|z1 R R (rB (S9 (fun h=>c10 (by rw [h]))))
 refine zi<|zs<|zr<|zm R R<|XL.len R R R Tryz.underlying48 fun hl12=>zm R R<|zn<|Ah<|?_
 refine Ax (α:=Nat) (fun k=>k≤a.length∧∀j x y,j<k→a[j]? =some x→b[j]? =some y→x=y) (fun k=>mkF [(0, .d (.sl 5 (a.map Hd.c))),(1, .d (.sl 5 (b.map Hd.c))),(12, .d (dI a.length)),(13, .d (dI k))]) (fun k=>mkH []) (fun k=>a.length - k) (0) (⟨Nat.zero_le _,fun j x y h=>absurd h (Nat.not_lt_zero _)⟩) ?_ ?_ ?_
 exact fz ⟨sr,sr,sr,sr,trivial⟩
 exact HSub.nil
 intro k hk0
 obtain ⟨hk,hf⟩:=hk0
 refine zr<|zp (Ar R R R)<|zn<|zs<|?_
 refine zd R (fun c14=> ?_) (fun c14=> ?_)
 have hk0a:k<a.length:=by omega
 obtain ⟨x,hx0⟩:=At hk0a
 obtain ⟨y,hy⟩:∃y,b[k]? =some y:=At (by omega)
 refine zi<|zs<|Ah<|zr<|zm R R<|za R R<|zn<|zs<|Bk [] (by kernel_rfl) (by kernel_rfl) (by kernel_rfl) (by decide)<|ym R R<|ym R R<|yp (Am R R R Fg hx0)<|yp (Ae (s':= .d (.agg (Hd.c x))) (Av R R Kd lb) (by kernel_rfl))<|ym R R<|?_
 refine ym R R<|yp (Am R R R Fg (hy))<|yp (Ae (s':= .d (.agg (Hd.c y))) (Av R R Kd lb) (by kernel_rfl))<|yp (Aa6 R R R)<|?_
 refine ChK.nil ⟨by kernel_rfl, ?_⟩
 refine zd R (fun c24=> ?_) (fun c24=> ?_)
 exact zr<|za R R<|zn<|zt<|z1 R R (rB (S9 (fun h=>Hd.ne_of c24 (by rw [h] at hx0;rw [hx0] at hy;cases hy;rfl))))
 refine zi<|Af (by kernel_rfl)<|zp (Aj R R R (by omega) (by omega))<|zm R R<|zn<|?_
 exact Ak (k+1) (⟨by omega,fun j x' y' hj hx' hy'=>by by_cases e:j=k;(· subst e;rw [hx0] at hx';rw [hy] at hy';cases hx';cases hy';exact Hd.eq_of c24);(· exact hf j x' y' (by omega) hx' hy')⟩) (by omega) (fz ⟨sr,sr,sr,sr,trivial⟩) (HSub.nil)
 have hk0b:k=a.length:=by omega
 exact An<|zr<|za R R<|zn<|zt<|z1 R R (rB (Ab6 (Iy (by omega) (fun j x y hj=>hf j x y (by omega)))))
theorem Apn (a b:List Gr):XC Tryz.prog 149 [.sl 5 (a.map Gr.c), .sl 5 (b.map Gr.c)] (fun r=>r=dB (decide (a=b))):=by
 refine Ao Adj Tryz.func149 R R lb<|zr<|za R R<|zn<|zs<|zr<|zm R R<|XL.len R R R Tryz.underlying57 fun hl7=>zm R R<|XL.len R R R Tryz.underlying57 fun hl9=>zp (Bg R R R)<|zn<|?_
 refine zd R (fun c10=> ?_) (fun c10=> ?_)
 exact zr<|za R R<|zn<|zt<|z1 R R (rB (S9 (fun h=>c10 (by rw [h]))))
 refine zi<|zs<|zr<|zm R R<|XL.len R R R Tryz.underlying57 fun hl12=>zm R R<|zn<|Ah<|?_
 refine Ax (α:=Nat) (fun k=>k≤a.length∧∀j x y,j<k→a[j]? =some x→b[j]? =some y→x=y) (fun k=>mkF [(0, .d (.sl 5 (a.map Gr.c))),(1, .d (.sl 5 (b.map Gr.c))),(12, .d (dI a.length)),(13, .d (dI k))]) (fun k=>mkH []) (fun k=>a.length - k) (0) (⟨Nat.zero_le _,fun j x y h=>absurd h (Nat.not_lt_zero _)⟩) ?_ ?_ ?_
 exact fz ⟨sr,sr,sr,sr,trivial⟩
 exact HSub.nil
 intro k hk0
 obtain ⟨hk,hf⟩:=hk0
 refine zr<|zp (Ar R R R)<|zn<|zs<|?_
 refine zd R (fun c14=> ?_) (fun c14=> ?_)
 have hk0a:k<a.length:=by omega
 obtain ⟨x,hx0⟩:=At hk0a
 obtain ⟨y,hy⟩:∃y,b[k]? =some y:=At (by omega)
 refine zi<|zs<|Ah<|zr<|zm R R<|za R R<|zn<|zs<|Bk [] (by kernel_rfl) (by kernel_rfl) (by kernel_rfl) (by decide)<|ym R R<|ym R R<|yp (Am R R R Ra hx0)<|yp (Ae (s':= .d (.agg (Gr.c x))) (Av R R P6 lb) (by kernel_rfl))<|ym R R<|?_
 refine ym R R<|yp (Am R R R Ra (hy))<|yp (Ae (s':= .d (.agg (Gr.c y))) (Av R R P6 lb) (by kernel_rfl))<|yp (Yk R R R)<|?_
 refine ChK.nil ⟨by kernel_rfl, ?_⟩
 refine zd R (fun c24=> ?_) (fun c24=> ?_)
 exact zr<|za R R<|zn<|zt<|z1 R R (rB (S9 (fun h=>Gr.ne_of c24 (by rw [h] at hx0;rw [hx0] at hy;cases hy;rfl))))
 refine zi<|Af (by kernel_rfl)<|zp (Aj R R R (by omega) (by omega))<|zm R R<|zn<|?_
 exact Ak (k+1) (⟨by omega,fun j x' y' hj hx' hy'=>by by_cases e:j=k;(· subst e;rw [hx0] at hx';rw [hy] at hy';cases hx';cases hy';exact Gr.eq_of c24);(· exact hf j x' y' (by omega) hx' hy')⟩) (by omega) (fz ⟨sr,sr,sr,sr,trivial⟩) (HSub.nil)
 have hk0b:k=a.length:=by omega
 exact An<|zr<|za R R<|zn<|zt<|z1 R R (rB (Ab6 (Iy (by omega) (fun j x y hj=>hf j x y (by omega)))))
theorem Apl (a b:List Sy):XC Tryz.prog 150 [.sl 2 (a.map Sy.c), .sl 2 (b.map Sy.c)] (fun r=>r=dB (decide (a=b))):=by
 refine Ao Adi Tryz.func150 R R lb<|zr<|za R R<|zn<|zs<|zr<|zm R R<|XL.len R R R Tryz.underlying58 fun hl7=>zm R R<|XL.len R R R Tryz.underlying58 fun hl9=>zp (Bg R R R)<|zn<|?_
 refine zd R (fun c10=> ?_) (fun c10=> ?_)
 exact zr<|za R R<|zn<|zt<|z1 R R (rB (S9 (fun h=>c10 (by rw [h]))))
 refine zi<|zs<|zr<|zm R R<|XL.len R R R Tryz.underlying58 fun hl12=>zm R R<|zn<|Ah<|?_
 refine Ax (α:=Nat) (fun k=>k≤a.length∧∀j x y,j<k→a[j]? =some x→b[j]? =some y→x=y) (fun k=>mkF [(0, .d (.sl 2 (a.map Sy.c))),(1, .d (.sl 2 (b.map Sy.c))),(12, .d (dI a.length)),(13, .d (dI k))]) (fun k=>mkH []) (fun k=>a.length - k) (0) (⟨Nat.zero_le _,fun j x y h=>absurd h (Nat.not_lt_zero _)⟩) ?_ ?_ ?_
 exact fz ⟨sr,sr,sr,sr,trivial⟩
 exact HSub.nil
 intro k hk0
 obtain ⟨hk,hf⟩:=hk0
 refine zr<|zp (Ar R R R)<|zn<|zs<|?_
 refine zd R (fun c14=> ?_) (fun c14=> ?_)
 have hk0a:k<a.length:=by omega
 obtain ⟨x,hx0⟩:=At hk0a
 obtain ⟨y,hy⟩:∃y,b[k]? =some y:=At (by omega)
 refine zi<|zs<|Ah<|zr<|zm R R<|za R R<|zn<|zs<|Bk [] (by kernel_rfl) (by kernel_rfl) (by kernel_rfl) (by decide)<|ym R R<|ym R R<|yp (Am R R R O8 hx0)<|yp (Ae (s':= .d (.agg (Sy.c x))) (Av R R Jp lb) (by kernel_rfl))<|ym R R<|?_
 refine ym R R<|yp (Am R R R O8 (hy))<|yp (Ae (s':= .d (.agg (Sy.c y))) (Av R R Jp lb) (by kernel_rfl))<|yp (Yj R R R)<|?_
 refine ChK.nil ⟨by kernel_rfl, ?_⟩
 refine zd R (fun c24=> ?_) (fun c24=> ?_)
 exact zr<|za R R<|zn<|zt<|z1 R R (rB (S9 (fun h=>Sy.ne_of c24 (by rw [h] at hx0;rw [hx0] at hy;cases hy;rfl))))
 refine zi<|Af (by kernel_rfl)<|zp (Aj R R R (by omega) (by omega))<|zm R R<|zn<|?_
 exact Ak (k+1) (⟨by omega,fun j x' y' hj hx' hy'=>by by_cases e:j=k;(· subst e;rw [hx0] at hx';rw [hy] at hy';cases hx';cases hy';exact Sy.eq_of c24);(· exact hf j x' y' (by omega) hx' hy')⟩) (by omega) (fz ⟨sr,sr,sr,sr,trivial⟩) (HSub.nil)
 have hk0b:k=a.length:=by omega
 exact An<|zr<|za R R<|zn<|zt<|z1 R R (rB (Ab6 (Iy (by omega) (fun j x y hj=>hf j x y (by omega)))))
theorem Ze (n:Int):XC Tryz.prog 117 [.v (.int .i64 n)] (fun r=>r=dB (decide (1≤n∧n≤4))):=by
 refine Ao Aee Tryz.func117 R R lb<|zr<|za R R<|znr<|zm R R<|zp (Dt R R R)<|zm R R<|?_
 refine XL.dec 5 R (fun g5=> ?_) (fun g5=> ?_)
 exact zm R R<|zp (Ft R R R)<|zq R R R<|za R R<|zn<|zt<|z1 R R (rB (by rw [decide_eq_decide];omega))
 exact zk 2 R<|zq R R R<|za R R<|zn<|zt<|z1 R R (rB (by rw [eq_comm,decide_eq_false_iff_not];omega))
def Es (n:Int):Int:=if n<0 then 0 else if n / 16 % 2=1 then 16 else 0
theorem Am5 {n:Int} (h:¬n<0):((n.toNat &&& (16:Int).toNat:Nat):Int)=Es n:=by
 rw [show (16:Int).toNat=2 ^ 4 from rfl,Asx,Es,if_neg h]
 split<;>split<;>omega
theorem Aii (n:Int) (hn:n≤9223372036854775807):XC Tryz.prog 151 [.v (.int .i64 n)] (fun r=>r=dI (Es n)):=by
 refine Ao Adh Tryz.func151 R R lb<|zr<|za R R<|zn<|zs<|zr<|zm R R<|zp (Ar R R R)<|zn<|?_
 refine zd R (fun c4=> ?_) (fun c4=> ?_)
 exact zr<|za R R<|zn<|zt<|z1 R R (rI (by rw [Es,if_pos c4]))
 exact zi<|zr<|zm R R<|zp (Aqa R R R (by omega) (by omega) (by omega) (by omega))<|za R R<|zn<|zt<|z1 R R (rI (Am5 c4))
end Go.Proofs.YtcihalbakenleaaGreat
namespace Go.Proofs.YtcihalbakenleaaGreat
open Go.RowKit
def Ev.same (a b:Ev):Prop:=a.kind=b.kind∧a.v=b.v∧a.art=b.art∧a.orn=b.orn∧a.dyn=b.dyn∧a.stem=b.stem∧a.beam=b.beam∧a.heads=b.heads∧a.graces=b.graces∧a.lyr=b.lyr
instance (a b:Ev):Decidable (a.same b):=by unfold Ev.same;exact inferInstance
theorem Val.eq_of {x y:Val} (h:x.log=y.log∧x.dots=y.dots):x=y:=by obtain ⟨a,b⟩:=x;obtain ⟨c,d⟩:=y;obtain ⟨rfl,rfl⟩:=h;rfl
theorem Ei {a b:Ev} (h:¬a.same b):false=decide (a.same b):=by rw [decide_eq_false h]
theorem Ahq (a b:Ev):XC Tryz.prog 118 [.agg (Ev.c a), .agg (Ev.c b)] (fun r=>r=dB (decide (a.same b))):=by
 refine Ao Aed Tryz.func118 R R lb<|zr<|XL.step R (Au 2 (l:= [.d (dI a.site), .d (dI a.num), .d (dI a.kind), .d (dI a.v.log), .d (dI a.v.dots), .d (.sl 5 (a.heads.map Hd.c)), .d (.sl 5 (a.graces.map Gr.c)), .d (dI a.art), .d (dI a.orn), .d (dI a.dyn), .d (.sl 2 (a.lyr.map Sy.c)), .d (dI a.stem), .d (dI a.beam)]) R R (by kernel_rfl))<|?_
 refine XL.step R (Au 3 (l:= [.d (dI b.site), .d (dI b.num), .d (dI b.kind), .d (dI b.v.log), .d (dI b.v.dots), .d (.sl 5 (b.heads.map Hd.c)), .d (.sl 5 (b.graces.map Gr.c)), .d (dI b.art), .d (dI b.orn), .d (dI b.dyn), .d (.sl 2 (b.lyr.map Sy.c)), .d (dI b.stem), .d (dI b.beam)]) R R (by kernel_rfl))<|za R R<|znr<|zp (Aa R R Bz)<|zp (Ab R R Ai R R)<|?_
 refine zp (Aa R R Bz)<|zp (Ab R R Ai R R)<|zp (A1 R R R)<|zm R R<|?_
 refine XL.dec 10 R (fun g10=> ?_) (fun g10=> ?_)
 refine zp (Aa R R Cm)<|zp (Ae (s':= .d (.agg (Val.c a.v))) (Ac (Ad R R Cn R lb)) (by kernel_rfl))<|zp (Aa R R Cm)<|zp (Ae (s':= .d (.agg (Val.c b.v))) (Ac (Ad R R Cn R lb)) (by kernel_rfl))<|zp (Qq R R R)<|zq R R R<|zm R R<|?_
 refine XL.dec 17 R (fun g17=> ?_) (fun g17=> ?_)
 refine zp (Aa R R Dl)<|zp (Ab R R Ai R R)<|zp (Aa R R Dl)<|zp (Ab R R Ai R R)<|zp (A1 R R R)<|zq R R R<|zm R R<|?_
 refine XL.dec 24 R (fun g24=> ?_) (fun g24=> ?_)
 refine zp (Aa R R G5)<|zp (Ab R R Ai R R)<|zp (Aa R R G5)<|zp (Ab R R Ai R R)<|zp (A1 R R R)<|zq R R R<|zm R R<|?_
 refine XL.dec 31 R (fun g31=> ?_) (fun g31=> ?_)
 refine zp (Aa R R E6)<|zp (Ab R R Ai R R)<|zp (Aa R R E6)<|zp (Ab R R Ai R R)<|zp (A1 R R R)<|zq R R R<|zm R R<|?_
 refine XL.dec 38 R (fun g38=> ?_) (fun g38=> ?_)
 refine zp (Aa R R Ep)<|zp (Ab R R Ai R R)<|zp (Aa R R Ep)<|zp (Ab R R Ai R R)<|zp (A1 R R R)<|zq R R R<|zm R R<|?_
 refine XL.dec 45 R (fun g45=> ?_) (fun g45=> ?_)
 refine zp (Aa R R Ga)<|zp (Ab R R Ai R R)<|zp (Aa R R Ga)<|zp (Ab R R Ai R R)<|zp (A1 R R R)<|zq R R R<|zm R R<|?_
 refine XL.dec 52 R (fun g52=> ?_) (fun g52=> ?_)
 refine zp (Aa R R Be)<|zp (Ab R R Cu R R)<|zp (Aa R R Be)<|zp (Ab R R Cu R R)<|XL.call1 R R (Apm _ _) R<|zq R R R<|zm R R<|?_
 refine XL.dec 59 R (fun g59=> ?_) (fun g59=> ?_)
 refine zp (Aa R R E7)<|zp (Ab R R Jr R R)<|zp (Aa R R E7)<|zp (Ab R R Jr R R)<|XL.call1 R R (Apn _ _) R<|zq R R R<|zm R R<|?_
 refine XL.dec 66 R (fun g66=> ?_) (fun g66=> ?_)
 exact zp (Aa R R E5)<|zp (Ab R R Jq R R)<|zp (Aa R R E5)<|zp (Ab R R Jq R R)<|XL.call1 R R (Apl _ _) R<|zq R R R<|za R R<|zn<|zt<|z1 R R (rB (by rw [decide_eq_decide];exact ⟨fun h=>⟨g10,Val.eq_of g17,g24,g31,g38,g45,g52,g59,g66,h⟩,fun h=>h.2.2.2.2.2.2.2.2.2⟩))
 exact zk 5 R<|zq R R R<|za R R<|zn<|zt<|z1 R R (rB (Ei fun h=>g66 h.2.2.2.2.2.2.2.2.1))
 exact zk 5 R<|zq R R R<|zm R R<|zk 5 R<|zq R R R<|za R R<|zn<|zt<|z1 R R (rB (Ei fun h=>g59 h.2.2.2.2.2.2.2.1))
 exact zk 5 R<|zq R R R<|zm R R<|zk 5 R<|zq R R R<|zm R R<|zk 5 R<|zq R R R<|za R R<|zn<|zt<|z1 R R (rB (Ei fun h=>g52 h.2.2.2.2.2.2.1))
 exact zk 5 R<|zq R R R<|zm R R<|zk 5 R<|zq R R R<|zm R R<|zk 5 R<|zq R R R<|zm R R<|zk 5 R<|zq R R R<|za R R<|zn<|zt<|z1 R R (rB (Ei fun h=>g45 h.2.2.2.2.2.1))
 refine zk 5 R<|zq R R R<|zm R R<|zk 5 R<|zq R R R<|zm R R<|zk 5 R<|zq R R R<|zm R R<|zk 5 R<|zq R R R<|zm R R<|zk 5 R<|zq R R R<|?_
 exact za R R<|zn<|zt<|z1 R R (rB (Ei fun h=>g38 h.2.2.2.2.1))
 refine zk 5 R<|zq R R R<|zm R R<|zk 5 R<|zq R R R<|zm R R<|zk 5 R<|zq R R R<|zm R R<|zk 5 R<|zq R R R<|zm R R<|zk 5 R<|zq R R R<|?_
 exact zm R R<|zk 5 R<|zq R R R<|za R R<|zn<|zt<|z1 R R (rB (Ei fun h=>g31 h.2.2.2.1))
 refine zk 5 R<|zq R R R<|zm R R<|zk 5 R<|zq R R R<|zm R R<|zk 5 R<|zq R R R<|zm R R<|zk 5 R<|zq R R R<|zm R R<|zk 5 R<|zq R R R<|?_
 exact zm R R<|zk 5 R<|zq R R R<|zm R R<|zk 5 R<|zq R R R<|za R R<|zn<|zt<|z1 R R (rB (Ei fun h=>g24 h.2.2.1))
 refine zk 5 R<|zq R R R<|zm R R<|zk 5 R<|zq R R R<|zm R R<|zk 5 R<|zq R R R<|zm R R<|zk 5 R<|zq R R R<|zm R R<|zk 5 R<|zq R R R<|?_
 exact zm R R<|zk 5 R<|zq R R R<|zm R R<|zk 5 R<|zq R R R<|zm R R<|zk 5 R<|zq R R R<|za R R<|zn<|zt<|z1 R R (rB (Ei fun h=>g17 (by rw [h.2.1];exact ⟨rfl,rfl⟩)))
 refine zk 5 R<|zq R R R<|zm R R<|zk 5 R<|zq R R R<|zm R R<|zk 5 R<|zq R R R<|zm R R<|zk 5 R<|zq R R R<|zm R R<|zk 5 R<|zq R R R<|?_
 refine zm R R<|zk 5 R<|zq R R R<|zm R R<|zk 5 R<|zq R R R<|zm R R<|zk 5 R<|zq R R R<|zm R R<|zk 5 R<|zq R R R<|za R R<|zn<|?_
 exact zt<|z1 R R (rB (Ei fun h=>g10 h.1))
def Ev.strip (e:Ev):Ev:=
 if e.kind=1∨¬(1≤e.kind∧e.kind≤4) then e else
 ⟨e.site,e.num,e.kind,if e.kind≠3 then e.v else ⟨0,0⟩, [], [],if e.kind≠4 then Es e.art else 0,0,e.dyn, [],0,0⟩
theorem Sq {e:Ev} (h:e.kind=1):e=e.strip:=by rw [Ev.strip,if_pos (.inl h)]
theorem Aq8 {e:Ev} (h:¬(1≤e.kind∧e.kind≤4)):e=e.strip:=by rw [Ev.strip,if_pos (.inr h)]
theorem Aq7 {e:Ev} (h:¬e.kind=1) (h2:¬ ¬(1≤e.kind∧e.kind≤4)) (h3:e.kind≠3) (h4:e.kind≠4):(⟨e.site,e.num,e.kind,e.v, [], [],Es e.art,0,e.dyn, [],0,0⟩:Ev)=e.strip:=by rw [Ev.strip,if_neg (by omega),if_pos h3,if_pos h4]
theorem Aq6 {e:Ev} (h:¬e.kind=1) (h2:¬ ¬(1≤e.kind∧e.kind≤4)) (h3:e.kind≠3) (h4:¬e.kind≠4):(⟨e.site,e.num,e.kind,e.v, [], [],0,0,e.dyn, [],0,0⟩:Ev)=e.strip:=by rw [Ev.strip,if_neg (by omega),if_pos h3,if_neg h4]
theorem Aq5 {e:Ev} (h:¬e.kind=1) (h2:¬ ¬(1≤e.kind∧e.kind≤4)) (h3:¬e.kind≠3) (h4:e.kind≠4):(⟨e.site,e.num,e.kind,⟨0,0⟩, [], [],Es e.art,0,e.dyn, [],0,0⟩:Ev)=e.strip:=by rw [Ev.strip,if_neg (by omega),if_neg h3,if_pos h4]
theorem Bw {a b:Ev} (h:a=b):D.agg (Ev.c a)= .agg (Ev.c b):=by rw [h]
theorem Anr (e:Ev) (he:e.art≤9223372036854775807):XC Tryz.prog 119 [.agg (Ev.c e)] (fun r=>r= .agg (Ev.c e.strip)):=by
 refine Ao Aec Tryz.func119 R R lb<|zr<|XL.step R (Au 1 (l:= [.d (dI e.site), .d (dI e.num), .d (dI e.kind), .d (dI e.v.log), .d (dI e.v.dots), .d (.sl 5 (e.heads.map Hd.c)), .d (.sl 5 (e.graces.map Gr.c)), .d (dI e.art), .d (dI e.orn), .d (dI e.dyn), .d (.sl 2 (e.lyr.map Sy.c)), .d (dI e.stem), .d (dI e.beam)]) R R (by kernel_rfl))<|?_
 refine XL.step R (A4 2 (l:= [.d (dI 0), .d (dI 0), .d (dI 0), .d (dI 0), .d (dI 0), .d (.v (.slice none 0 0)), .d (.v (.slice none 0 0)), .d (dI 0), .d (dI 0), .d (dI 0), .d (.v (.slice none 0 0)), .d (dI 0), .d (dI 0)]) R B3 (by kernel_rfl))<|zn<|zs<|zr<|zp (Aa R R Bz)<|zp (Ab R R Ai R R)<|zp (A1 R R R)<|zm R R<|?_
 refine XL.dec 7 R (fun g7=> ?_) (fun g7=> ?_)
 refine zk 4 R<|zq R R R<|zn<|Aq (by kernel_rfl) R<|zr<|zp (Ae (s':= .d (.agg (Ev.c e))) (Ac (Ad R R Az R lb)) (by kernel_rfl))<|?_
 refine XL.step R (Ag (l':= [.d (dI e.site), .d (dI e.num), .d (dI e.kind), .d (dI e.v.log), .d (dI e.v.dots), .d (.sl 5 (e.heads.map Hd.c)), .d (.sl 5 (e.graces.map Gr.c)), .d (dI e.art), .d (dI e.orn), .d (dI e.dyn), .d (.sl 2 (e.lyr.map Sy.c)), .d (dI e.stem), .d (dI e.beam)]) R R R R B4 R lb (by kernel_rfl))<|zn<|zt<|?_
 exact Gb R (RV.cells R R R Az lb R) (Bw (Sq g7))
 refine zp (Aa R R Bz)<|zp (Ab R R Ai R R)<|XL.call1 R R (Ze _) R<|zp (B2 R R)<|zq R R R<|zn<|?_
 refine zd R (fun c12=> ?_) (fun c12=> ?_)
 refine zr<|zp (Ae (s':= .d (.agg (Ev.c e))) (Ac (Ad R R Az R lb)) (by kernel_rfl))<|?_
 refine XL.step R (Ag (l':= [.d (dI e.site), .d (dI e.num), .d (dI e.kind), .d (dI e.v.log), .d (dI e.v.dots), .d (.sl 5 (e.heads.map Hd.c)), .d (.sl 5 (e.graces.map Gr.c)), .d (dI e.art), .d (dI e.orn), .d (dI e.dyn), .d (.sl 2 (e.lyr.map Sy.c)), .d (dI e.stem), .d (dI e.beam)]) R R R R B4 R lb (by kernel_rfl))<|zn<|zt<|?_
 exact Gb R (RV.cells R R R Az lb R) (Bw (Aq8 c12))
 refine zi<|zr<|zp (Aa R R Fj)<|zp (Ae (s':= .d (.agg [dI e.site,dI e.num])) (Ac (Ad R R Ks R lb)) (by kernel_rfl))<|zp (Aa R R Bz)<|zp (Ab R R Ai R R)<|zp (Aa R R E6)<|zp (Ab R R Ai R R)<|?_
 refine zp (Ae (s':= .d (.agg [dI e.site,dI e.num,dI e.kind,dI 0,dI 0, .v (.slice none 0 0), .v (.slice none 0 0),dI 0,dI 0,dI e.dyn, .v (.slice none 0 0),dI 0,dI 0])) (Ac (Ba R Nr B3 R)) (by kernel_rfl))<|?_
 refine XL.step R (A4 3 (l:= [.d (dI 0), .d (dI 0), .d (dI 0), .d (dI 0), .d (dI 0), .d (.v (.slice none 0 0)), .d (.v (.slice none 0 0)), .d (dI 0), .d (dI 0), .d (dI 0), .d (.v (.slice none 0 0)), .d (dI 0), .d (dI 0)]) R B3 (by kernel_rfl))<|?_
 refine XL.step R (Ag (l':= [.d (dI e.site), .d (dI e.num), .d (dI e.kind), .d (dI 0), .d (dI 0), .d (.v (.slice none 0 0)), .d (.v (.slice none 0 0)), .d (dI 0), .d (dI 0), .d (dI e.dyn), .d (.v (.slice none 0 0)), .d (dI 0), .d (dI 0)]) R R R R B4 R lb (by kernel_rfl))<|zn<|zs<|zr<|zp (Aa R R Bz)<|zp (Ab R R Ai R R)<|zp (Bg R R R)<|zn<|?_
 refine zd R (fun c23=> ?_) (fun c23=> ?_)
 refine Af (by kernel_rfl)<|zp (Aa R R Cm)<|zp (Ae (s':= .d (.agg (Val.c e.v))) (Ac (Ad R R Cn R lb)) (by kernel_rfl))<|zp (Aa R R Cm)<|?_
 refine XL.step R (Ag (l':= [.d (dI e.site), .d (dI e.num), .d (dI e.kind), .d (dI e.v.log), .d (dI e.v.dots), .d (.v (.slice none 0 0)), .d (.v (.slice none 0 0)), .d (dI 0), .d (dI 0), .d (dI e.dyn), .d (.v (.slice none 0 0)), .d (dI 0), .d (dI 0)]) R R R R Dw R lb (by kernel_rfl))<|zn<|zs<|zr<|zp (Aa R R Bz)<|zp (Ab R R Ai R R)<|zp (Bg R R R)<|zn<|?_
 refine zd R (fun c29=> ?_) (fun c29=> ?_)
 refine Af (by kernel_rfl)<|zp (Aa R R Dl)<|zp (Ab R R Ai R R)<|XL.call1 R R (Aii _ (by assumption)) R<|zp (Aa R R Dl)<|?_
 refine XL.step R (Ag (l':= [.d (dI e.site), .d (dI e.num), .d (dI e.kind), .d (dI e.v.log), .d (dI e.v.dots), .d (.v (.slice none 0 0)), .d (.v (.slice none 0 0)), .d (dI (Es e.art)), .d (dI 0), .d (dI e.dyn), .d (.v (.slice none 0 0)), .d (dI 0), .d (dI 0)]) R R R R Dc R lb (by kernel_rfl))<|znr<|?_
 refine zp (Ae (s':= .d (.agg [dI e.site,dI e.num,dI e.kind,dI e.v.log,dI e.v.dots, .v (.slice none 0 0), .v (.slice none 0 0),dI (Es e.art),dI 0,dI e.dyn, .v (.slice none 0 0),dI 0,dI 0])) (Ac (Ad R R Az R lb)) (by kernel_rfl))<|?_
 refine XL.step R (Ag (l':= [.d (dI e.site), .d (dI e.num), .d (dI e.kind), .d (dI e.v.log), .d (dI e.v.dots), .d (.v (.slice none 0 0)), .d (.v (.slice none 0 0)), .d (dI (Es e.art)), .d (dI 0), .d (dI e.dyn), .d (.v (.slice none 0 0)), .d (dI 0), .d (dI 0)]) R R R R B4 R lb (by kernel_rfl))<|zn<|zt<|?_
 exact Gb R (RV.sub (RV.cells R R R Az lb R) (.agg (.cons (.same R) (.cons (.same R) (.cons (.same R) (.cons (.same R) (.cons (.same R) (.cons (.nil 5) (.cons (.nil 5) (.cons (.same R) (.cons (.same R) (.cons (.same R) (.cons (.nil 2) (.cons (.same R) (.cons (.same R) (.nil)))))))))))))))) (Bw (Aq7 g7 c12 c23 c29))
 refine zi<|zr<|zp (Ae (s':= .d (.agg [dI e.site,dI e.num,dI e.kind,dI e.v.log,dI e.v.dots, .v (.slice none 0 0), .v (.slice none 0 0),dI 0,dI 0,dI e.dyn, .v (.slice none 0 0),dI 0,dI 0])) (Ac (Ad R R Az R lb)) (by kernel_rfl))<|?_
 refine XL.step R (Ag (l':= [.d (dI e.site), .d (dI e.num), .d (dI e.kind), .d (dI e.v.log), .d (dI e.v.dots), .d (.v (.slice none 0 0)), .d (.v (.slice none 0 0)), .d (dI 0), .d (dI 0), .d (dI e.dyn), .d (.v (.slice none 0 0)), .d (dI 0), .d (dI 0)]) R R R R B4 R lb (by kernel_rfl))<|zn<|zt<|?_
 exact Gb R (RV.sub (RV.cells R R R Az lb R) (.agg (.cons (.same R) (.cons (.same R) (.cons (.same R) (.cons (.same R) (.cons (.same R) (.cons (.nil 5) (.cons (.nil 5) (.cons (.same R) (.cons (.same R) (.cons (.same R) (.cons (.nil 2) (.cons (.same R) (.cons (.same R) (.nil)))))))))))))))) (Bw (Aq6 g7 c12 c23 c29))
 refine zi<|zs<|zr<|zp (Aa R R Bz)<|zp (Ab R R Ai R R)<|zp (Bg R R R)<|zn<|?_
 refine zd R (fun c29=> ?_) (fun c29=> ?_)
 refine Af (by kernel_rfl)<|zp (Aa R R Dl)<|zp (Ab R R Ai R R)<|XL.call1 R R (Aii _ (by assumption)) R<|zp (Aa R R Dl)<|?_
 refine XL.step R (Ag (l':= [.d (dI e.site), .d (dI e.num), .d (dI e.kind), .d (dI 0), .d (dI 0), .d (.v (.slice none 0 0)), .d (.v (.slice none 0 0)), .d (dI (Es e.art)), .d (dI 0), .d (dI e.dyn), .d (.v (.slice none 0 0)), .d (dI 0), .d (dI 0)]) R R R R Dc R lb (by kernel_rfl))<|znr<|?_
 refine zp (Ae (s':= .d (.agg [dI e.site,dI e.num,dI e.kind,dI 0,dI 0, .v (.slice none 0 0), .v (.slice none 0 0),dI (Es e.art),dI 0,dI e.dyn, .v (.slice none 0 0),dI 0,dI 0])) (Ac (Ad R R Az R lb)) (by kernel_rfl))<|?_
 refine XL.step R (Ag (l':= [.d (dI e.site), .d (dI e.num), .d (dI e.kind), .d (dI 0), .d (dI 0), .d (.v (.slice none 0 0)), .d (.v (.slice none 0 0)), .d (dI (Es e.art)), .d (dI 0), .d (dI e.dyn), .d (.v (.slice none 0 0)), .d (dI 0), .d (dI 0)]) R R R R B4 R lb (by kernel_rfl))<|zn<|zt<|?_
 exact Gb R (RV.sub (RV.cells R R R Az lb R) (.agg (.cons (.same R) (.cons (.same R) (.cons (.same R) (.cons (.same R) (.cons (.same R) (.cons (.nil 5) (.cons (.nil 5) (.cons (.same R) (.cons (.same R) (.cons (.same R) (.cons (.nil 2) (.cons (.same R) (.cons (.same R) (.nil)))))))))))))))) (Bw (Aq5 g7 c12 c23 c29))
 refine zi<|zr<|zp (Ae (s':= .d (.agg [dI e.site,dI e.num,dI e.kind,dI 0,dI 0, .v (.slice none 0 0), .v (.slice none 0 0),dI 0,dI 0,dI e.dyn, .v (.slice none 0 0),dI 0,dI 0])) (Ac (Ad R R Az R lb)) (by kernel_rfl))<|?_
 refine XL.step R (Ag (l':= [.d (dI e.site), .d (dI e.num), .d (dI e.kind), .d (dI 0), .d (dI 0), .d (.v (.slice none 0 0)), .d (.v (.slice none 0 0)), .d (dI 0), .d (dI 0), .d (dI e.dyn), .d (.v (.slice none 0 0)), .d (dI 0), .d (dI 0)]) R R R R B4 R lb (by kernel_rfl))<|zn<|zt<|?_
 exact Gb R (RV.sub (RV.cells R R R Az lb R) (.agg (.cons (.same R) (.cons (.same R) (.cons (.same R) (.cons (.same R) (.cons (.same R) (.cons (.nil 5) (.cons (.nil 5) (.cons (.same R) (.cons (.same R) (.cons (.same R) (.cons (.nil 2) (.cons (.same R) (.cons (.same R) (.nil)))))))))))))))) (by exfalso;omega)
def Dj (v:Val):Int:=if -1≤v.log∧v.log≤8∧0≤v.dots∧v.dots≤3 then 0 else 17
theorem Og {v:Val} (h:¬(-1≤v.log∧v.log≤8∧0≤v.dots∧v.dots≤3)):17=Dj v:=by rw [Dj,if_neg h]
theorem Rn {v:Val} (h: -1≤v.log∧v.log≤8∧0≤v.dots∧v.dots≤3):0=Dj v:=by rw [Dj,if_pos h]
theorem Ot {v:Val} (h:¬Dj v≠0): -1≤v.log∧v.log≤8∧0≤v.dots∧v.dots≤3:=by
 unfold Dj at h;split at h
 ·assumption
 ·omega
theorem Zh (v:Val):XC Tryz.prog 120 [.agg (Val.c v)] (fun r=>r=dI (Dj v)):=by
 refine Ao Aeb Tryz.func120 R R lb<|zr<|XL.step R (Au 1 (l:= [.d (dI v.log), .d (dI v.dots)]) R R (by kernel_rfl))<|za R R<|zn<|zs<|zr<|zp (Aa R R Mb)<|zp (Ab R R Ai R R)<|zp (Ar R R R)<|zm R R<|?_
 refine XL.dec 6 R (fun g6=> ?_) (fun g6=> ?_)
 exact zk 3 R<|zq R R R<|zm R R<|zk 3 R<|zq R R R<|zm R R<|zk 3 R<|zq R R R<|zn<|Aq (by kernel_rfl) R<|zr<|za R R<|zn<|zt<|z1 R R (rI (Og (by omega)))
 refine zp (Aa R R Mb)<|zp (Ab R R Ai R R)<|zp (A8 R R R)<|zq R R R<|zm R R<|?_
 refine XL.dec 11 R (fun g11=> ?_) (fun g11=> ?_)
 exact zk 3 R<|zq R R R<|zm R R<|zk 3 R<|zq R R R<|zn<|Aq (by kernel_rfl) R<|zr<|za R R<|zn<|zt<|z1 R R (rI (Og (by omega)))
 refine zp (Aa R R Ia)<|zp (Ab R R Ai R R)<|zp (Ar R R R)<|zq R R R<|zm R R<|?_
 refine XL.dec 16 R (fun g16=> ?_) (fun g16=> ?_)
 exact zk 3 R<|zq R R R<|zn<|Aq (by kernel_rfl) R<|zr<|za R R<|zn<|zt<|z1 R R (rI (Og (by omega)))
 refine zp (Aa R R Ia)<|zp (Ab R R Ai R R)<|zp (A8 R R R)<|zq R R R<|zn<|?_
 refine zd R (fun c20=> ?_) (fun c20=> ?_)
 exact zr<|za R R<|zn<|zt<|z1 R R (rI (Og (by omega)))
 exact zi<|zr<|za R R<|zn<|zt<|z1 R R (rI (Rn (by omega)))
def E3 (p:Int):Nat→Int × Int
 |0=>(p,p)
 |n+1=>((E3 p n).1 / 2,(E3 p n).2+(E3 p n).1 / 2)
theorem Ld {p:Int} (h0:0≤p) (n:Nat):0≤(E3 p n).1∧(E3 p n).1≤p∧0≤(E3 p n).2∧(E3 p n).2≤p*(n+1):=by
 induction n with
 |zero=>simp [E3];omega
 |succ n ih=>
  have e:p*((n+1:Nat)+1:Int)=p*(n+1)+p:=by rw [Int.natCast_add,Int.mul_add];simp
  simp only [E3]
  rw [e]
  omega
def Ej (v:Val):Int:=3870720 / 2 ^ (v.log+1).toNat
def Cp (v:Val):Int:=(E3 (Ej v) v.dots.toNat).2
theorem Mf (v:Val):0≤Ej v∧Ej v≤3870720:=by
 unfold Ej
 have h:(0:Int)<2 ^ (v.log+1).toNat:=Int.pow_pos (by omega)
 exact ⟨Int.ediv_nonneg (by omega) (by omega),Int.ediv_le_self _ (by omega)⟩
theorem Zg (v:Val) (hv: -1≤v.log∧v.log≤8∧0≤v.dots∧v.dots≤3):XC Tryz.prog 170 [.agg (Val.c v)] (fun r=>r=dI (Cp v)):=by
 have hp:=Mf v
 refine Ao Ac0 Tryz.func170 R R lb<|zr<|XL.step R (Au 1 (l:= [.d (dI v.log), .d (dI v.dots)]) R R (by kernel_rfl))<|za R R<|znr<|zp (Aa R R Mb)<|zp (Ab R R Ai R R)<|zp (Aj R R R (by omega) (by omega))<|zp (Zv R R R (by omega) (by omega))<|za R R<|znr<|zm R R<|za R R<|zn<|?_
 refine zs<|zr<|zp (Aa R R Ia)<|zp (Ab R R Ai R R)<|zm R R<|zn<|Ah<|?_
 refine Ax (α:=Nat) (fun k=>(k:Int)≤v.dots) (fun k=>mkF [(2, .d (dI 0)),(3, .d (dI (E3 (Ej v) k).1)),(4, .d (dI (E3 (Ej v) k).2)),(11, .d (dI v.dots)),(12, .d (dI k))]) (fun k=>mkH []) (fun k=>v.dots.toNat - k) (0) (hv.2.2.1) ?_ ?_ ?_
 exact fz ⟨sr,sr,sr,sr,sr,trivial⟩
 exact HSub.nil
 intro k hk0
 refine zr<|zp (Ar R R R)<|zn<|zs<|?_
 refine zd R (fun c13=> ?_) (fun c13=> ?_)
 have hb:=Ld hp.1 k
 have hb2:Ej v*((k:Int)+1)≤3870720*4:=Int.mul_le_mul hp.2 (by omega) (by omega) (by omega)
 refine zi<|zs<|Ah<|zr<|zm R R<|zp (Gs R R R (by omega) (by omega) (by omega))<|za R R<|zng<|zm R R<|zm R R<|zp (Aj R R R (by omega) (by omega))<|za R R<|zn<|Af (by kernel_rfl)<|?_
 refine zp (Aj R R R (by omega) (by omega))<|zm R R<|zn<|?_
 exact Ak (k+1) (by omega) (by omega) (fz ⟨sr,sr,sr,sr,sr,trivial⟩) (HSub.nil)
 have hke:v.dots.toNat=k:=by omega
 exact An<|zr<|zm R R<|za R R<|zn<|zt<|z1 R R (rI (by rw [Cp,hke]))
def Rm (v:Val):Int:=if Dj v=0 then Cp v else 0
theorem Aq0 {v:Val} (h:Dj v≠0):0=Rm v:=by rw [Rm,if_neg h]
theorem Ahi {v:Val} (h:¬Dj v≠0):Cp v=Rm v∧0=Dj v:=⟨by rw [Rm,if_pos (by omega)],by omega⟩
theorem Am9 (v:Val):XC Tryz.prog 180 [.agg (Val.c v)] (fun r=>r= .tup [dI (Rm v),dI (Dj v)]):=by
 refine Ao Acp Tryz.func180 R R lb<|zr<|XL.step R (Au 1 (l:= [.d (dI v.log), .d (dI v.dots)]) R R (by kernel_rfl))<|za R R<|za R R<|zn<|zs<|zr<|zp (Ae (s':= .d (.agg (Val.c v))) (Ac (Ad R R Cn R lb)) (by kernel_rfl))<|XL.call1 R R (Zh _) R<|za R R<|znr<|zm R R<|zp (Bg R R R)<|?_
 refine zn<|?_
 refine zd R (fun c8=> ?_) (fun c8=> ?_)
 refine zr<|zm R R<|za R R<|za R R<|zn<|zt<|?_
 exact Bl R (RV.tmp R R) (RV.tmp R R) (r2 (rI (Aq0 c8)) R)
 refine zi<|zs<|?_
 have hv:=Ot c8
 refine Af (by kernel_rfl)<|zp (Ae (s':= .d (.agg (Val.c v))) (Ac (Ad R R Cn R lb)) (by kernel_rfl))<|XL.call1 R R (Zg _ (by assumption)) R<|za R R<|za R R<|zn<|zt<|?_
 exact Bl R (RV.tmp R R) (RV.tmp R R) (r2 (rI (Ahi c8).1) (rI (Ahi c8).2))
def Ev.e1 (e:Ev):Int:=Da [B1 e.site 99,B1 e.num 1073741824]
def Ev.e2 (e:Ev):Int:=Da [Cy e.heads,Fm e.graces,Ho e.lyr]
def Ev.e3 (e:Ev):Int:=Da [B1 e.art 31,B1 e.orn 4,B1 e.dyn 9,B1 e.stem 2,B1 e.beam 2]
def Ev.err (e:Ev):Int:=
 if e.e1≠0 then e.e1 else if ¬(1≤e.kind∧e.kind≤4) then 11 else if ¬e.same e.strip then 3 else if e.kind≠3∧Dj e.v≠0 then 17
 else if e.kind=1∧e.e2≠0 then e.e2 else e.e3
theorem Avr {e:Ev} (h:e.e1≠0):e.e1=e.err:=by rw [Ev.err,if_pos h]
theorem Aqh {e:Ev} (h:¬e.e1≠0) (h2:¬(1≤e.kind∧e.kind≤4)):11=e.err:=by rw [Ev.err,if_neg h,if_pos h2]
theorem Aqg {e:Ev} (h:¬e.e1≠0) (h2:¬ ¬(1≤e.kind∧e.kind≤4)) (h3:¬e.same e.strip):3=e.err:=by rw [Ev.err,if_neg h,if_neg h2,if_pos h3]
theorem Aqf {e:Ev} (h:¬e.e1≠0) (h2:¬ ¬(1≤e.kind∧e.kind≤4)) (h3:¬ ¬e.same e.strip) (h4:e.kind≠3) (h5:Dj e.v≠0):17=e.err:=by rw [Ev.err,if_neg h,if_neg h2,if_neg h3,if_pos ⟨h4,h5⟩]
theorem Aqe {e:Ev} (h:¬e.e1≠0) (h2:¬ ¬(1≤e.kind∧e.kind≤4)) (h3:¬ ¬e.same e.strip) (h4:¬(e.kind≠3∧Dj e.v≠0)) (h5:e.kind=1) (h6:e.e2≠0):e.e2=e.err:=by rw [Ev.err,if_neg h,if_neg h2,if_neg h3,if_neg h4,if_pos ⟨h5,h6⟩]
theorem Z3 {e:Ev} (h:¬e.e1≠0) (h2:¬ ¬(1≤e.kind∧e.kind≤4)) (h3:¬ ¬e.same e.strip) (h4:¬(e.kind≠3∧Dj e.v≠0)) (h5:¬(e.kind=1∧e.e2≠0)):e.e3=e.err:=by rw [Ev.err,if_neg h,if_neg h2,if_neg h3,if_neg h4,if_neg h5]
theorem O9 (e:Ev) (he:e.art≤9223372036854775807):XC Tryz.prog 75 [.agg (Ev.c e)] (fun r=>r=dI e.err):=by
 refine Ao Af6 Tryz.func75 R R lb<|zr<|XL.step R (Au 1 (l:= [.d (dI e.site), .d (dI e.num), .d (dI e.kind), .d (dI e.v.log), .d (dI e.v.dots), .d (.sl 5 (e.heads.map Hd.c)), .d (.sl 5 (e.graces.map Gr.c)), .d (dI e.art), .d (dI e.orn), .d (dI e.dyn), .d (.sl 2 (e.lyr.map Sy.c)), .d (dI e.stem), .d (dI e.beam)]) R R (by kernel_rfl))<|za R R<|zn<|zs<|zs<|?_
 refine Bk [] (by kernel_rfl) (by kernel_rfl) (by kernel_rfl) (by decide)<|yp (Aa R R Fj)<|yp (Aa R R Ab1)<|yp (Ab R R Ai R R)<|ChK.cons R (CStep.call R (Db _ _) R)<|yp (Aa R R Fj)<|yp (Aa R R Ab0)<|yp (Ab R R Ai R R)<|ChK.cons R (CStep.call R (Db _ _) R)<|?_
 refine ChK.cons R (CStep.slice (l:=B8 [(B1 e.site 99),(B1 e.num 1073741824)]) R Tryz.underlying180 Oi K4 (by kernel_rfl) R (by omega) (by omega))<|ChK.cons R (CStep.call R (Ka _) R)<|ya R R<|?_
 refine ChK.nil ⟨by kernel_rfl, ?_⟩
 refine zr<|zm R R<|zp (Bg R R R)<|zn<|?_
 refine zd R (fun c16=> ?_) (fun c16=> ?_)
 exact zr<|zm R R<|za R R<|zn<|zt<|z1 R R (rI (Avr c16))
 refine zi<|zs<|zr<|zp (Aa R R Bz)<|zp (Ab R R Ai R R)<|XL.call1 R R (Ze _) R<|zp (B2 R R)<|zn<|?_
 refine zd R (fun c21=> ?_) (fun c21=> ?_)
 exact zr<|za R R<|zn<|zt<|z1 R R (rI (Aqh c16 c21))
 refine zi<|zs<|zs<|Bk [] (by kernel_rfl) (by kernel_rfl) (by kernel_rfl) (by decide)<|yp (Ae (s':= .d (.agg (Ev.c e))) (Ac (Ad R R Az R lb)) (by kernel_rfl))<|yp (Ae (s':= .d (.agg (Ev.c e))) (Ac (Ad R R Az R lb)) (by kernel_rfl))<|ChK.cons R (CStep.call R (Anr _ (by assumption)) R)<|ChK.cons R (CStep.call R (Ahq _ _) R)<|?_
 refine yp (B2 R R)<|?_
 refine ChK.nil ⟨by kernel_rfl, ?_⟩
 refine zd R (fun c26=> ?_) (fun c26=> ?_)
 exact zr<|za R R<|zn<|zt<|z1 R R (rI (Aqg c16 c21 c26))
 refine zi<|zs<|zr<|zp (Aa R R Bz)<|zp (Ab R R Ai R R)<|zp (Bg R R R)<|zm R R<|?_
 refine XL.dec 30 R (fun g30=> ?_) (fun g30=> ?_)
 refine zp (Aa R R Cm)<|zp (Ae (s':= .d (.agg (Val.c e.v))) (Ac (Ad R R Cn R lb)) (by kernel_rfl))<|XL.call1 R R (Zh _) R<|zp (Bg R R R)<|zq R R R<|zn<|?_
 refine zd R (fun c35=> ?_) (fun c35=> ?_)
 exact zr<|za R R<|zn<|zt<|z1 R R (rI (Aqf c16 c21 c26 g30 c35))
 refine zi<|zs<|zr<|zp (Aa R R Bz)<|zp (Ab R R Ai R R)<|zp (A1 R R R)<|zn<|?_
 refine zd R (fun c38=> ?_) (fun c38=> ?_)
 refine zs<|Bk [] (by kernel_rfl) (by kernel_rfl) (by kernel_rfl) (by decide)<|yp (Aa R R Be)<|yp (Ab R R Cu R R)<|ChK.cons R (CStep.call R (Abs _) R)<|yp (Aa R R E7)<|yp (Ab R R Jr R R)<|ChK.cons R (CStep.call R (Y8 _) R)<|yp (Aa R R E5)<|yp (Ab R R Jq R R)<|ChK.cons R (CStep.call R (Yz _) R)<|?_
 refine ChK.cons R (CStep.slice (l:=B8 [(Cy e.heads),(Fm e.graces),(Ho e.lyr)]) R Tryz.underlying180 Oi K4 (by kernel_rfl) R (by omega) (by omega))<|ChK.cons R (CStep.call R (Ka _) R)<|ya R R<|?_
 refine ChK.nil ⟨by kernel_rfl, ?_⟩
 refine zr<|zm R R<|zp (Bg R R R)<|zn<|?_
 refine zd R (fun c51=> ?_) (fun c51=> ?_)
 exact zr<|zm R R<|za R R<|zn<|zt<|z1 R R (rI (Aqe c16 c21 c26 (fun h=>c35 h.2) c38 c51))
 refine zi<|zs<|Bk [] (by kernel_rfl) (by kernel_rfl) (by kernel_rfl) (by decide)<|yp (Aa R R Dl)<|yp (Ab R R Ai R R)<|ChK.cons R (CStep.call R (Db _ _) R)<|yp (Aa R R G5)<|yp (Ab R R Ai R R)<|ChK.cons R (CStep.call R (Db _ _) R)<|yp (Aa R R E6)<|yp (Ab R R Ai R R)<|ChK.cons R (CStep.call R (Db _ _) R)<|?_
 refine yp (Aa R R Ep)<|yp (Ab R R Ai R R)<|ChK.cons R (CStep.call R (Db _ _) R)<|yp (Aa R R Ga)<|yp (Ab R R Ai R R)<|ChK.cons R (CStep.call R (Db _ _) R)<|?_
 refine ChK.cons R (CStep.slice (l:=B8 [(B1 e.art 31),(B1 e.orn 4),(B1 e.dyn 9),(B1 e.stem 2),(B1 e.beam 2)]) R Tryz.underlying180 Oi K4 (by kernel_rfl) R (by omega) (by omega))<|ChK.cons R (CStep.call R (Ka _) R)<|ya R R<|?_
 refine ChK.nil ⟨by kernel_rfl, ?_⟩
 exact zt<|z1 R R (rI (Z3 c16 c21 c26 (fun h=>c35 h.2) (fun h=>c51 h.2)))
 refine zi<|zs<|Bk [] (by kernel_rfl) (by kernel_rfl) (by kernel_rfl) (by decide)<|yp (Aa R R Dl)<|yp (Ab R R Ai R R)<|ChK.cons R (CStep.call R (Db _ _) R)<|yp (Aa R R G5)<|yp (Ab R R Ai R R)<|ChK.cons R (CStep.call R (Db _ _) R)<|yp (Aa R R E6)<|yp (Ab R R Ai R R)<|ChK.cons R (CStep.call R (Db _ _) R)<|?_
 refine yp (Aa R R Ep)<|yp (Ab R R Ai R R)<|ChK.cons R (CStep.call R (Db _ _) R)<|yp (Aa R R Ga)<|yp (Ab R R Ai R R)<|ChK.cons R (CStep.call R (Db _ _) R)<|?_
 refine ChK.cons R (CStep.slice (l:=B8 [(B1 e.art 31),(B1 e.orn 4),(B1 e.dyn 9),(B1 e.stem 2),(B1 e.beam 2)]) R Tryz.underlying180 Oi K4 (by kernel_rfl) R (by omega) (by omega))<|ChK.cons R (CStep.call R (Ka _) R)<|ya R R<|?_
 refine ChK.nil ⟨by kernel_rfl, ?_⟩
 exact zt<|z1 R R (rI (Z3 c16 c21 c26 (fun h=>c35 h.2) (fun h=>c38 h.1)))
 refine zk 4 R<|zq R R R<|zn<|A7 (by kernel_rfl) R<|zi<|zs<|zr<|zp (Aa R R Bz)<|zp (Ab R R Ai R R)<|zp (A1 R R R)<|zn<|?_
 refine zd R (fun c38=> ?_) (fun c38=> ?_)
 refine zs<|Bk [] (by kernel_rfl) (by kernel_rfl) (by kernel_rfl) (by decide)<|yp (Aa R R Be)<|yp (Ab R R Cu R R)<|ChK.cons R (CStep.call R (Abs _) R)<|yp (Aa R R E7)<|yp (Ab R R Jr R R)<|ChK.cons R (CStep.call R (Y8 _) R)<|yp (Aa R R E5)<|yp (Ab R R Jq R R)<|ChK.cons R (CStep.call R (Yz _) R)<|?_
 refine ChK.cons R (CStep.slice (l:=B8 [(Cy e.heads),(Fm e.graces),(Ho e.lyr)]) R Tryz.underlying180 Oi K4 (by kernel_rfl) R (by omega) (by omega))<|ChK.cons R (CStep.call R (Ka _) R)<|ya R R<|?_
 refine ChK.nil ⟨by kernel_rfl, ?_⟩
 refine zr<|zm R R<|zp (Bg R R R)<|zn<|?_
 refine zd R (fun c51=> ?_) (fun c51=> ?_)
 exact zr<|zm R R<|za R R<|zn<|zt<|z1 R R (by exfalso;omega)
 refine zi<|zs<|Bk [] (by kernel_rfl) (by kernel_rfl) (by kernel_rfl) (by decide)<|yp (Aa R R Dl)<|yp (Ab R R Ai R R)<|ChK.cons R (CStep.call R (Db _ _) R)<|yp (Aa R R G5)<|yp (Ab R R Ai R R)<|ChK.cons R (CStep.call R (Db _ _) R)<|yp (Aa R R E6)<|yp (Ab R R Ai R R)<|ChK.cons R (CStep.call R (Db _ _) R)<|?_
 refine yp (Aa R R Ep)<|yp (Ab R R Ai R R)<|ChK.cons R (CStep.call R (Db _ _) R)<|yp (Aa R R Ga)<|yp (Ab R R Ai R R)<|ChK.cons R (CStep.call R (Db _ _) R)<|?_
 refine ChK.cons R (CStep.slice (l:=B8 [(B1 e.art 31),(B1 e.orn 4),(B1 e.dyn 9),(B1 e.stem 2),(B1 e.beam 2)]) R Tryz.underlying180 Oi K4 (by kernel_rfl) R (by omega) (by omega))<|ChK.cons R (CStep.call R (Ka _) R)<|ya R R<|?_
 refine ChK.nil ⟨by kernel_rfl, ?_⟩
 exact zt<|z1 R R (by exfalso;omega)
 refine zi<|zs<|Bk [] (by kernel_rfl) (by kernel_rfl) (by kernel_rfl) (by decide)<|yp (Aa R R Dl)<|yp (Ab R R Ai R R)<|ChK.cons R (CStep.call R (Db _ _) R)<|yp (Aa R R G5)<|yp (Ab R R Ai R R)<|ChK.cons R (CStep.call R (Db _ _) R)<|yp (Aa R R E6)<|yp (Ab R R Ai R R)<|ChK.cons R (CStep.call R (Db _ _) R)<|?_
 refine yp (Aa R R Ep)<|yp (Ab R R Ai R R)<|ChK.cons R (CStep.call R (Db _ _) R)<|yp (Aa R R Ga)<|yp (Ab R R Ai R R)<|ChK.cons R (CStep.call R (Db _ _) R)<|?_
 refine ChK.cons R (CStep.slice (l:=B8 [(B1 e.art 31),(B1 e.orn 4),(B1 e.dyn 9),(B1 e.stem 2),(B1 e.beam 2)]) R Tryz.underlying180 Oi K4 (by kernel_rfl) R (by omega) (by omega))<|ChK.cons R (CStep.call R (Ka _) R)<|ya R R<|?_
 refine ChK.nil ⟨by kernel_rfl, ?_⟩
 exact zt<|z1 R R (rI (Z3 c16 c21 c26 (fun h=>g30 h.1) (fun h=>c38 h.1)))
def Ev.len (e:Ev):Int:=if e.err≠0∨e.kind=3 then 0 else Rm e.v
theorem Avq {e:Ev} (h:e.err≠0):0=e.len:=by rw [Ev.len,if_pos (.inl h)]
theorem Avp {e:Ev} (h:e.kind=3):0=e.len:=by rw [Ev.len,if_pos (.inr h)]
theorem Avo {e:Ev} (h:¬e.err≠0) (h2:¬e.kind=3):Rm e.v=e.len:=by rw [Ev.len,if_neg (by omega)]
theorem Ai1 {e:Ev} (h:¬e.err≠0) (h2:¬e.kind=3):Dj e.v=e.err:=by
 have h0:e.err=0:=by omega
 rw [h0]
 unfold Ev.err at h0
 split at h0
 ·rename_i h1;exact absurd h0 h1
 ·split at h0
  ·omega
  ·split at h0
   ·omega
   ·split at h0
    ·omega
    ·rename_i h4;by_cases h5:Dj e.v=0
     ·exact h5
     ·exact absurd ⟨h2,h5⟩ h4
theorem Aiv (e:Ev) (he:e.art≤9223372036854775807):XC Tryz.prog 162 [.agg (Ev.c e)] (fun r=>r= .tup [dI e.len,dI e.err]):=by
 refine Ao Ac6 Tryz.func162 R R lb<|zr<|XL.step R (Au 1 (l:= [.d (dI e.site), .d (dI e.num), .d (dI e.kind), .d (dI e.v.log), .d (dI e.v.dots), .d (.sl 5 (e.heads.map Hd.c)), .d (.sl 5 (e.graces.map Gr.c)), .d (dI e.art), .d (dI e.orn), .d (dI e.dyn), .d (.sl 2 (e.lyr.map Sy.c)), .d (dI e.stem), .d (dI e.beam)]) R R (by kernel_rfl))<|za R R<|za R R<|zn<|zs<|zr<|?_
 refine zp (Ae (s':= .d (.agg (Ev.c e))) (Ac (Ad R R Az R lb)) (by kernel_rfl))<|XL.call1 R R (O9 _ (by assumption)) R<|za R R<|znr<|zm R R<|zp (Bg R R R)<|zm R R<|?_
 refine XL.dec 9 R (fun g9=> ?_) (fun g9=> ?_)
 refine zk 3 R<|zq R R R<|zn<|Aq (by kernel_rfl) R<|zr<|zm R R<|za R R<|za R R<|zn<|zt<|?_
 exact Bl R (RV.tmp R R) (RV.tmp R R) (r2 (rI (Avq g9)) R)
 refine zp (Aa R R Bz)<|zp (Ab R R Ai R R)<|zp (A1 R R R)<|zq R R R<|zn<|?_
 refine zd R (fun c13=> ?_) (fun c13=> ?_)
 refine zr<|zm R R<|za R R<|za R R<|zn<|zt<|?_
 exact Bl R (RV.tmp R R) (RV.tmp R R) (r2 (rI (Avp c13)) R)
 refine zi<|zr<|zp (Aa R R Cm)<|zp (Ae (s':= .d (.agg (Val.c e.v))) (Ac (Ad R R Cn R lb)) (by kernel_rfl))<|XL.call1 R R (Am9 _) R<|zp (Bc R R R)<|zp (Bc R R R)<|za R R<|za R R<|zn<|zt<|?_
 exact Bl R (RV.tmp R R) (RV.tmp R R) (r2 (rI (Avo g9 c13)) (rI (Ai1 g9 c13)))
end Go.Proofs.YtcihalbakenleaaGreat
namespace Go.Proofs.YtcihalbakenleaaGreat
open Go.RowKit
theorem Bd.ati {e:Operand→S} {y:Operand} {k:IntKind} {b:Int} {a dflt:Nat} (h:e y= .d (.v (.int k b))) (hb:b=(a:Int)):Bd e (some y) dflt a:=by subst hb;exact .at h
theorem Ak0 {P:Program} {F:FuncId} {ds:List D} {p:Prop} [Decidable p] (hx:XC P F ds (fun r=>r= .v (.bool (decide p)))) (h:p):XC P F ds (fun r=>r= .v (.bool true)):=by rwa [decide_eq_true h] at hx
theorem Ig {id:Nat} {K:Ee} {f:Fr} {h:Xh} (hk:K .normal f h):Wm id K .normal f h:=hk
theorem Sim.lay {E:Env} {H:Hp} {β:Bt} {h:Xh} {w:World} (s:Sim E H β h w) (i:Nat) (o':XO) (L':Loc) (hblk:∀b,o'.blk L'=some b→∃o L,h i=some o∧β i=some L∧o.blk L=some b)
  (hok:OKo E.w.heap.size w H (β.set i (some L')) L' o'):Sim E H (β.set i (some L')) ((h.kill i).set i o') w:=by
 have k:=s.kill i (some L')
 have old:∀j o1 L1,i≠j→h.kill i j=some o1→(β.set i (some L')) j=some L1→∃o2,h j=some o2∧β j=some L1∧o1.blk L1=o2.blk L1:=fun j o1 L1 e h1 h2=>by
  rw [Xh.kill_ne h e] at h1
  rw [Bt.set_ne β _ e] at h2
  cases hj:h j with
  |none=>rw [hj] at h1;cases h1
  |some o2=>rw [hj] at h1;cases h1;exact ⟨o2,rfl,h2,XO.blk_kill _ _ _⟩
 refine ⟨k.below,k.ext,k.new,k.imm,fun j o1 L1 h1 h2=> ?_,fun j o1 L1 h1 h2 b hb=> ?_,fun j j' o1 o2 L1 L2 b hjj h1 h1' h2 h2' hb=> ?_,fun j o1 h1 hg=> ?_⟩
 ·by_cases e:i=j
  ·subst e;rw [Xh.set_same] at h1;rw [Bt.set_same] at h2;cases h1;cases h2;exact hok
  ·rw [Xh.set_ne _ _ e] at h1;exact k.obj j o1 L1 h1 h2
 ·by_cases e:i=j
  ·subst e;rw [Xh.set_same] at h1;rw [Bt.set_same] at h2;cases h1;cases h2
   obtain ⟨o,L,g1,g2,g3⟩:=hblk b hb
   exact s.sep i o L g1 g2 b g3
  ·rw [Xh.set_ne _ _ e] at h1;exact k.sep j o1 L1 h1 h2 b hb
 ·by_cases e:i=j
  ·subst e
   rw [Xh.set_same] at h1;rw [Bt.set_same] at h2;cases h1;cases h2
   rw [Xh.set_ne _ _ hjj] at h1'
   obtain ⟨o,L,g1,g2,g3⟩:=hblk b hb
   obtain ⟨o3,g4,g5,g6⟩:=old j' o2 L2 hjj h1' h2'
   rw [g6]
   exact s.inj i j' o o3 L L2 b hjj g1 g4 g2 g5 g3
  ·rw [Xh.set_ne _ _ e] at h1
   obtain ⟨o3,g4,g5,g6⟩:=old j o1 L1 e h1 h2
   by_cases e':i=j'
   ·subst e'
    rw [Xh.set_same] at h1';rw [Bt.set_same] at h2';cases h1';cases h2'
    intro hc
    obtain ⟨o,L,g1,g2,g3⟩:=hblk b hc
    rw [g6] at hb
    exact s.inj i j o o3 L L1 b e g1 g4 g2 g5 g3 hb
   ·rw [Xh.set_ne _ _ e'] at h1'
    exact k.inj j j' o1 o2 L1 L2 b hjj h1 h1' h2 h2' hb
 ·by_cases e:i=j
  ·subst e;exact ⟨_,Bt.set_same _ _ _⟩
  ·rw [Xh.set_ne _ _ e] at h1;exact k.dom j o1 h1 hg
section
variable {P:Program} {n:Nat} {ops:Array Oper} {rest:List Oper} {K:Ee} {f:Fr} {h:Xh} {o:Oper} {c:Code}
theorem Xa {E:Env} {H:Hp} {β:Bt} {h:Xh} {w:World} (s:Sim E H β h w) (i:Nat) (e:TypeId) (sz:Nat):Sim E H (β.set i (some ⟨.slice none 0 0,0,sz⟩)) ((h.kill i).set i (.row e sz [])) w:=
 s.lay i _ _ (fun b hb=>by cases hb) ⟨rfl,fun x hx=>(by cases hx),fun b hb=>(by cases hb), [],World.ownsRow_nil _ _ _ _,fun u hu=>(by cases hu),fun k j x d hk=>(by simp at hk)⟩
theorem Di (i t:Nat) (e:TypeId) (sz:Nat) (ht:f t= .d (.v (.slice none 0 0))) (hc:XW P n c K (D1 (H8 f i) t (.own i)) ((h.kill i).set i (.row e sz []))):XW P n c K f h:=fun E H β a w hs hf=>by
 by_cases hlt:t<n
 ·refine hc E H _ a w (Xa hs i e sz) ?_
  refine Xn (hf.kill i (some ⟨.slice none 0 0,0,sz⟩)) t ?_
  have e1:=hf.slot t hlt
  rw [ht] at e1
  rw [Ew e1]
  exact VS.own (L:=⟨.slice none 0 0,0,sz⟩) (Bt.set_same _ _ _)
 ·refine hc E H _ a w (Xa hs i e sz) ⟨hf.defers,hf.size,fun j hj=> ?_⟩
  have:t≠j:=fun e=>hlt (e ▸ hj)
  simp only [D1,Co this,cond_false]
  exact (hf.kill i (some ⟨.slice none 0 0,0,sz⟩)).slot j hj
theorem Awd (l:List S) (k:Nat) (s:S) (j:Nat):(l.set k s)[j]? =if k=j∧j<l.length then some s else l[j]? :=by
 rw [List.getElem?_set]
 by_cases e:k=j
 ·subst e
  rw [if_pos rfl]
  by_cases h:k<l.length
  ·rw [if_pos h,if_pos ⟨rfl,h⟩]
  ·rw [if_neg h,if_neg (fun e=>h e.2),List.getElem?_eq_none (by omega)]
 ·rw [if_neg e,if_neg (fun h=>e h.1)]
theorem Kt (i b k:Nat) (e:TypeId) (sz:Nat) {l l':List S} (hb:h b=some (.box l)) (hk:l[k]? =some (.d (.v (.slice none 0 0)))) (hib:i≠b) (hl':(S.killL i l).set k (.own i)=l')
  (hc:XW P n c K (H8 f i) (((h.kill i).set i (.row e sz [])).set b (.box l'))):XW P n c K f h:=fun E H β a w hs hf=>by
 subst hl'
 have s2:=Xa hs i e sz
 have hb2:((h.kill i).set i (.row e sz [])) b=some (.box (S.killL i l)):=by rw [Xh.set_ne _ _ hib,Xh.kill_ne _ hib,hb];rfl
 refine hc E H _ a w ?_ (hf.kill i (some ⟨.slice none 0 0,0,sz⟩))
 cases hL:(β.set i (some ⟨.slice none 0 0,0,sz⟩)) b with
 |none=>
  refine ⟨s2.below,s2.ext,s2.new,s2.imm,fun j o1 L1 h1 h2=> ?_,fun j o1 L1 h1 h2=> ?_,fun j j' o1 o2 L1 L2 q hjj h1 h1' h2 h2'=> ?_,fun j o1 h1 hg=> ?_⟩
  ·by_cases e:b=j
   ·subst e;rw [hL] at h2;cases h2
   ·rw [Xh.set_ne _ _ e] at h1;exact s2.obj j o1 L1 h1 h2
  ·by_cases e:b=j
   ·subst e;rw [hL] at h2;cases h2
   ·rw [Xh.set_ne _ _ e] at h1;exact s2.sep j o1 L1 h1 h2
  ·by_cases e:b=j
   ·subst e;rw [hL] at h2;cases h2
   ·rw [Xh.set_ne _ _ e] at h1
    by_cases e':b=j'
    ·subst e';rw [hL] at h2';cases h2'
    ·rw [Xh.set_ne _ _ e'] at h1';exact s2.inj j j' o1 o2 L1 L2 q hjj h1 h1' h2 h2'
  ·by_cases e:b=j
   ·subst e;rw [Xh.set_same] at h1;cases h1;cases hg
   ·rw [Xh.set_ne _ _ e] at h1;exact s2.dom j o1 h1 hg
 |some L=>
  have ok:=s2.obj b _ L hb2 hL
  obtain ⟨h1,h0,us,t,h2,h3,h4⟩:=ok
  refine s2.turn (o:= .box (S.killL i l)) hb2 hL rfl s2.below (fun _ _=>rfl) ⟨h1,by rw [List.length_set];exact h0,us,t,h2,by rw [List.length_set];exact h3,fun j u s hu hs'=> ?_⟩
  rw [Awd] at hs'
  split at hs'
  ·rename_i hkj
   obtain ⟨rfl,hlt⟩:=hkj
   cases hs'
   have:=h4 k u (.d (.v (.slice none 0 0))) hu (by rw [S.killL_get,hk];simp [S.kill])
   rw [Ew this]
   exact VS.own (L:=⟨.slice none 0 0,0,sz⟩) (Bt.set_same _ _ _)
  ·exact h4 j u s hu hs'
theorem Vj {i:Nat} {t ty:TypeId} {sz:Nat} {x:Operand} {hi:Option Operand} {l:List (List D)} {m:Nat} (ho:o.op= .slice t x none hi none) (hx:ev f x= .own i) (hi':h i=some (.row ty sz l)) (hf:elB P t sz=true)
  (hhi:Bd (ev f) hi l.length m) (hm:m≤l.length):Step P n o f h (.own i) (H8 f i) ((h.kill i).set i (.row ty sz (l.take m))):=by
 intro E H β a w hs hfv hop
 have g:=hop x (by rw [ho];simp [Op.operands])
 rw [hx] at g
 obtain ⟨L,hL,hv⟩:=Jh g
 obtain ⟨el,hu,hpos,hsz⟩:=elB.parts hf
 obtain ⟨h1,hz,hvb,us,hown,hone,hc⟩:=hs.obj i _ L hi' hL
 have hown0:=hown
 obtain ⟨hlen,hcase⟩:=hown
 have hcap:∃A c,L.v= .slice A l.length c∧l.length≤c∧((A=none∧c=0)∨∃g,A=some ⟨g,0,none⟩):=by
  rcases hcase with ⟨hn,h0⟩|⟨g,cap,cur,e1,e2,e3,e4,e5,e6,e7⟩
  ·exact ⟨none,0,by rw [hn,h0],by omega, .inl ⟨rfl,rfl⟩⟩
  ·exact ⟨_,cap,e1,e4, .inr ⟨g,rfl⟩⟩
 obtain ⟨A,c,hLv,hlc,hA⟩:=hcap
 have hbounds:(Instr.sliceBounds true l.length c (none:Option Value) (hi.map a.eval) none).run P w= .ok (0,m,c) w:=
  Nc _ _ _ _ _ _ (.inl ⟨rfl,rfl⟩) (hhi.val fun y hy=>hop y (by rw [ho,hy];simp [Op.operands])) (Nat.zero_le _) (by omega) w
 have hrun:(execOp a.eval o).run P w= .ok (.value (.slice A m c)) w:=by
  unfold execOp
  simp only [ho,hv,hLv,Instr.sliceAt,Option.map_none,Sem.run_bind,run_underlying hu,Result.andThen_ok,Instr.slice,hbounds,hsz,Sem.run_pure,Nat.sub_zero,Nat.zero_mul]
  rcases hA with ⟨rfl,rfl⟩|⟨g,rfl⟩
  ·simp
  ·split<;>simp [Go.WideShapes.add_plain]
 unfold Oper.wp
 rw [hrun]
 have hblk:(Value.slice A m c).ownBlock=L.v.ownBlock:=by rw [hLv];rcases hA with ⟨rfl,_⟩|⟨g,rfl⟩<;>rfl
 have hlt:(l.take m).length=m:=by rw [List.length_take];omega
 refine ⟨H,β.set i (some ⟨.slice A m c,L.b,sz⟩), .slice A m c,rfl,hs.lay i _ _ (fun b hb=> ?_) ?_,hfv.kill i _,VS.own (L:=⟨.slice A m c,L.b,sz⟩) (Bt.set_same _ _ _)⟩
 ·refine ⟨_,L,hi',hL, ?_⟩
  simp only [XO.blk] at hb ⊢
  rw [←hblk];exact hb
 ·refine ⟨rfl,fun x hx=>hz x (List.mem_of_mem_take hx),fun b hb=>hvb b (by rw [←hblk];exact hb),us.take (m*sz),⟨?_, ?_⟩,fun u hu'=>hone u (List.mem_of_mem_take hu'),fun k j x d hk hj=> ?_⟩
  ·rw [List.length_take,hlt,hlen]
   exact Nat.min_eq_left (Nat.mul_le_mul_right _ hm)
  ·rw [hlt]
   rcases hcase with ⟨hn,h0⟩|⟨g,cap,cur,e1,e2,e3,e4,e5,e6,e7⟩
   ·rw [hn] at hLv
    injection hLv with q1 q2 q3
    subst q1 q3
    have:m=0:=by omega
    subst this
    exact .inl ⟨rfl,rfl⟩
   ·rw [e1] at hLv
    injection hLv with q1 q2 q3
    subst q1 q3
    refine .inr ⟨g,cap,cur,rfl,e2,e3,by omega,e5,e6, ?_⟩
    rw [←e7,List.take_take,Nat.min_eq_left (Nat.mul_le_mul_right _ hm)]
  ·have hkm:k<m:=by
    have:=(List.getElem?_eq_some_iff.1 hk).1
    omega
   rw [List.getElem?_take,if_pos hkm] at hk
   obtain ⟨u,h5,h6⟩:=hc k j x d hk hj
   refine ⟨u, ?_,h6⟩
   rw [List.getElem?_take,if_pos]
   ·exact h5
   ·have hjl:j<sz:=by
     have e1:=hz x (List.mem_of_getElem? hk)
     have e2:=(List.getElem?_eq_some_iff.1 hj).1
     omega
    calc k*sz+j<k*sz+sz:=by omega
     _=(k+1)*sz:=by rw [Nat.add_mul,Nat.one_mul]
     _≤m*sz:=Nat.mul_le_mul_right _ hkm
inductive FnS:S→FuncId→List S→List S→Prop where
 |s {F:FuncId} {ps cs:List S}:FnS (.fn F ps cs) F ps cs
 |d {F:FuncId} {pd cd:List D}:FnS (.d (.fn F pd cd)) F (pd.map S.d) (cd.map S.d)
theorem FnS.vs {H:Hp} {β:Bt} {u:Value} {s:S} {F:FuncId} {ps cs:List S} (hs:FnS s F ps cs) (hv:VS H β u s):VS H β u (.fn F ps cs):=by
 cases hs with
 |s=>exact hv
 | @d _ pd cd=>
  obtain ⟨A,C,rfl,h1,h2,h3,h4⟩:=Apz (Ex hv)
  refine .fn F A C _ _ (by simpa using h1) (by simpa using h2) (fun i x s hx hs=> ?_) (fun i x s hx hs=> ?_)
  ·rw [List.getElem?_map] at hs
   cases hp:pd[i]? with
   |none=>rw [hp] at hs;cases hs
   |some d=>rw [hp] at hs;cases hs;exact .d (h3 i x d hx hp)
  ·rw [List.getElem?_map] at hs
   cases hp:cd[i]? with
   |none=>rw [hp] at hs;cases hs
   |some d=>rw [hp] at hs;cases hs;exact .d (h4 i x d hx hp)
def Lt (P:Program) (n:Nat) (fn:Func) (f:Fr) (h:Xh) (s:S):Prop:=∀E H β a w,Sim E H β h w→FV n H β a f→∃u,(results fn a.tmps).run P w= .ok u w∧VS H β u s
theorem rs0 {fn:Func} {s:S} (hr:fn.results= #[]) (hs:s= .any):Lt P n fn f h s:=fun E H β a w _ _=>⟨.tuple #[],by rw [I4,hr];simp,by rw [hs];exact .any _⟩
theorem rs1 {fn:Func} {rv:ResultVar} {d:D} (hr:fn.results= #[rv]) (h1:RV P n f h rv d):Lt P n fn f h (.d d):=fun E H β a w hs hf=>by
 obtain ⟨u,e1,v1⟩:=h1 E H β a w hs hf
 refine ⟨u, ?_, .d v1⟩
 rw [I4,hr]
 simp [e1]
def Aku (ss:List S):Fr:=fun t=>
 match ss[t]? with
 |some s=>s
 |none=> .d (.v undef)
def Ao7 (P:Program) (n:Nat) (ops:Array Oper) (rest:List Oper) (K:Ee) (dst:Option Tmp) (fn:Func) (n' G:Nat) (u:Array Value):Ee
 | .normal,f,h=>∃s l,h G=some (.ghost u l)∧Lt P n' fn f h s∧XL P n ops rest K (B9 (mkF l) dst s) h
 | .ret,f,h=>∃s l,h G=some (.ghost u l)∧Lt P n' fn f h s∧XL P n ops rest K (B9 (mkF l) dst s) h
 |_,_,_=>False
theorem Gv {dst:Option Tmp} {fn:Func} {n' G:Nat} {u:Array Value} {f':Fr} {h':Xh} {s:S} {l:List (Nat × S)} (hG:h' G=some (.ghost u l)) (hr:Lt P n' fn f' h' s) (hk:XL P n ops rest K (B9 (mkF l) dst s) h'):
  Ao7 P n ops rest K dst fn n' G u .normal f' h'∧Ao7 P n ops rest K dst fn n' G u .ret f' h':=⟨⟨s,l,hG,hr,hk⟩,⟨s,l,hG,hr,hk⟩⟩
theorem Ar1 {l:List (Nat × S)} {t:Nat}:mkF l t= .any∨(t,mkF l t)∈l:=by
 induction l with
 |nil=>exact .inl rfl
 |cons p l ih=>
  obtain ⟨t',s⟩:=p
  by_cases e:t'=t
  ·subst e
   right
   have:mkF ((t',s)::l) t'=s:=by simp only [mkF,D1,Cc,cond_true]
   rw [this]
   exact List.mem_cons_self
  ·have:mkF ((t',s)::l) t=mkF l t:=by simp only [mkF,D1,Co e,cond_false]
   rw [this]
   rcases ih with h|h
   ·exact .inl h
   ·exact .inr (List.mem_cons_of_mem _ h)
theorem XL.inl {x:Operand} {args:Array Operand} {tys:Array TypeId} {F:FuncId} {ps cs:List S} {fn:Func} {n':Nat} (G:Nat) (l:List (Nat × S)) (ho:o.op= .call {callee:= .value x,args:=args,argTypes:=tys})
  (hw:Ct ops f n o.guard=some true) (hx:FnS (ev f x) F ps cs) (hcl:Callable P F) (hf:P.funcs[F]? =some fn) (hb:fn.body=some c) (hn:fn.ntmps=n') (hlen:ps.length+args.size+cs.length≤n')
  (hl:∀p∈l,p.1<n∧f p.1=p.2)
  (hc:∀u,XW P n' c (Ao7 P n ops rest K o.dst fn n' G u) (H8 (Aku (ps++args.toList.map (ev f)++cs)) G) ((h.kill G).set G (.ghost u (S.killG G l)))):XL P n ops (o::rest) K f h:=by
 intro hin E H β a w hs hfv
 rw [List.all_cons,Bool.and_eq_true] at hin
 have hop:=hfv.operands hin.1
 have hd:=hin.1
 unfold inN at hd
 rw [Bool.and_eq_true] at hd
 have hop':∀y∈args,VS H β (a.eval y) (ev f y):=fun y hy=>hop y (by rw [ho];simp [Op.operands,Call.operands,hy])
 have hxv:=hop x (by rw [ho];simp [Op.operands,Call.operands])
 obtain ⟨A,C,hA,hA1,hC1,hA2,hC2⟩:=Aiz (hx.vs hxv)
 have hrun:(execOp a.eval o).run P w= .ok (.enter F (A++args.map a.eval++C)) w:=by
  have:=hcl.run (A++args.map a.eval++C) w
  unfold execOp
  simp only [ho,resolve,hA,Deferred.ofValue,Sem.run_bind,Sem.run_pure,Result.andThen_ok,invoke]
  exact this
 unfold wpList
 rw [if_pos (Kf hfv hw)]
 refine .inl (Ik (K:=fun a' w'=>wpList P ops (Ae4 E n K) rest a' w') ?_ (fun _ _ h=>h))
 unfold Oper.wp
 rw [hrun]
 let L0:Option Loc:=some ⟨.slice none 0 0,0,0⟩
 have hvs:∀(i:Nat) (y:Value) (s:S),(A++args.map a.eval++C)[i]? =some y→(ps++args.toList.map (ev f)++cs)[i]? =some s→VS H β y s:=by
  intro i y s hy hd
  by_cases h1:i<ps.length
  ·rw [List.append_assoc,List.getElem?_append_left h1] at hd
   rw [Array.append_assoc,Array.getElem?_append_left (by omega)] at hy
   exact hA2 i y s hy hd
  ·by_cases h2:i<ps.length+args.size
   ·rw [List.append_assoc,List.getElem?_append_right (by omega),List.getElem?_append_left (by simp;omega)] at hd
    rw [Array.append_assoc,Array.getElem?_append_right (by omega),Array.getElem?_append_left (by simp;omega),hA1] at hy
    rw [List.getElem?_map,Array.getElem?_toList] at hd
    rw [Array.getElem?_map] at hy
    cases hq:args[i - ps.length]? with
    |none=>rw [hq] at hd;cases hd
    |some q=>
     rw [hq] at hd hy
     cases hd;cases hy
     exact hop' q (Array.mem_of_getElem? hq)
   ·rw [List.getElem?_append_right (by simp;omega)] at hd
    rw [Array.getElem?_append_right (by simp;omega)] at hy
    have e:(A++args.map a.eval).size=(ps++args.toList.map (ev f)).length:=by simp [hA1]
    rw [e] at hy
    exact hC2 _ y s hy hd
 have hsz:(A++args.map a.eval++C).size=(ps++args.toList.map (ev f)++cs).length:=by simp [hA1,hC1]
 have hsz2:(A++args.map a.eval++C).size=ps.length+args.size+cs.length:=by simp [hA1,hC1];omega
 generalize hvse:A++args.map a.eval++C=vs at*
 generalize hsse:ps++args.toList.map (ev f)++cs=ss at*
 have hcal:Calls P F vs w fun e w'=>∃v,e= .returned v∧wpList P ops (Ae4 E n K) rest (a.put o.dst v) w':=by
  refine calls_of_wp hf hb ?_
  have s2:Sim E H (β.set G L0) ((h.kill G).set G (.ghost a.tmps (S.killG G l))) w:=by
   refine hs.lay G _ _ (fun b hb=>by cases hb) fun t s hm=> ?_
   obtain ⟨s',h1,rfl⟩:=S.killG_mem hm
   obtain ⟨h2,h3⟩:=hl _ h1
   have:=hfv.slot t h2
   simp only at h3
   rw [h3] at this
   exact this.kill G _
  have f2:FV n' H (β.set G L0) {tmps:=vs++Array.replicate (fn.ntmps - vs.size) undef,defers:= []} (H8 (Aku ss) G):=by
   refine FV.kill ⟨rfl,by simp [hn];omega,fun t ht=> ?_⟩ G L0
   unfold Aku
   cases hd:ss[t]? with
   |none=>
    have hge:ss.length≤t:=List.getElem?_eq_none_iff.1 hd
    have:(vs++Array.replicate (fn.ntmps - vs.size) undef).getD t undef=undef:=by
     rw [Array.getD_eq_getD_getElem?,Array.getElem?_append_right (by omega)]
     rw [Array.getElem?_replicate]
     split<;>rfl
    show VS H β ((vs++Array.replicate (fn.ntmps - vs.size) undef).getD t undef) (.d (.v undef))
    rw [this]
    exact .d (.v _)
   |some s=>
    have hlt:t<ss.length:=(List.getElem?_eq_some_iff.1 hd).1
    have hx : vs[t]? = some (vs[t]'(by omega)) := Array.getElem?_eq_getElem (by omega)
    have : (vs ++ Array.replicate (fn.ntmps - vs.size) undef).getD t undef = vs[t]'(by omega) := by
     rw [Array.getD_eq_getD_getElem?,Array.getElem?_append_left (by omega),hx]
     rfl
    show VS H β ((vs++Array.replicate (fn.ntmps - vs.size) undef).getD t undef) s
    rw [this]
    exact hvs t _ s hx hd
  refine wp_mono (hc a.tmps E H _ _ w s2 f2) ?_
  rintro e a' w' ⟨H',β',f',h',h1,h2,h3⟩
  have fin:(∃s l,h' G=some (.ghost a.tmps l)∧Lt P n' fn f' h' s∧XL P n ops rest K (B9 (mkF l) o.dst s) h')→
    a'.defers= []∧∃v,(results fn a'.tmps).run P w'= .ok v w'∧∃v',Ending.returned v= .returned v'∧wpList P ops (Ae4 E n K) rest (a.put o.dst v') w':=by
   rintro ⟨s,l',g1,g2,g3⟩
   obtain ⟨v,g4,g5⟩:=g2 E H' β' a' w' h1 h2
   refine ⟨h2.defers,v,g4,v,rfl, ?_⟩
   obtain ⟨L,hL⟩:=h1.dom G _ g1 rfl
   have hok:∀t s,(t,s)∈l'→VS H' β' (a.tmps.getD t undef) s:=h1.obj G _ L g1 hL
   have fv : FV n H' β' a (mkF l') := ⟨hfv.defers, hfv.size, fun t _ => by
    rcases Ar1 (l:=l') (t:=t) with e|e
    ·rw [e];exact .any _
    ·exact hok _ _ e⟩
   exact g3 hin.2 E H' β' _ w' h1 (fv.put g5 o.dst hd.2)
  cases e with
  |normal=>exact fin h3
  |ret=>exact fin h3
  |_=>exact h3.elim
 refine hcal.mono ?_
 rintro e w' ⟨v,rfl,h⟩
 exact h
end
end Go.Proofs.YtcihalbakenleaaGreat
namespace Go.Proofs.YtcihalbakenleaaGreat
open Go.RowKit
def Tp.e (t:Tp):Int:=t.first+t.count
def Tp.ok (t:Tp):Prop:=0≤t.first∧t.first≤128∧1≤t.count∧t.count≤128∧1≤t.actual∧t.actual≤32∧1≤t.normal∧t.normal≤32
def Tp.has (t:Tp) (n:Int):Prop:=t.first≤n∧n - t.first<t.count
instance (t:Tp) (n:Int):Decidable (t.has n):=by unfold Tp.has;exact inferInstance
theorem Il (t:Tp) (h:t.ok):XC Tryz.prog 166 [.agg (Tp.c t)] (fun r=>r=dI t.e):=by
 have h2:=h
 simp only [Tp.ok] at h2
 exact Ao Ac3 Tryz.func166 R R lb<|zr<|XL.step R (Au 1 (l:= [.d (dI t.first), .d (dI t.count), .d (dI t.actual), .d (dI t.normal)]) R R (by kernel_rfl))<|za R R<|znr<|zp (Aa R R By)<|zp (Ab R R Ai R R)<|zp (Aa R R Dm)<|zp (Ab R R Ai R R)<|zp (Aj R R R (by omega) (by omega))<|za R R<|zn<|zt<|z1 R R (rI R)
theorem Ts (t:Tp) (n:Int) (h:t.ok) (h0:0≤n) (h1:n≤128):XC Tryz.prog 140 [.agg (Tp.c t), .v (.int .i64 n)] (fun r=>r=dB (decide (t.has n))):=by
 have h2:=h
 simp only [Tp.ok] at h2
 refine Ao Ads Tryz.func140 R R lb<|zr<|XL.step R (Au 2 (l:= [.d (dI t.first), .d (dI t.count), .d (dI t.actual), .d (dI t.normal)]) R R (by kernel_rfl))<|za R R<|znr<|zm R R<|zp (Aa R R By)<|zp (Ab R R Ai R R)<|zp (Dt R R R)<|zm R R<|?_
 refine XL.dec 9 R (fun g9=> ?_) (fun g9=> ?_)
 exact zm R R<|zp (Aa R R By)<|zp (Ab R R Ai R R)<|zp (C7 R R R (by omega) (by omega))<|zp (Aa R R Dm)<|zp (Ab R R Ai R R)<|zp (Ar R R R)<|zq R R R<|za R R<|zn<|zt<|z1 R R (rB (by rw [decide_eq_decide];unfold Tp.has;omega))
 exact zk 7 R<|zq R R R<|za R R<|zn<|zt<|z1 R R (rB (by rw [eq_comm,decide_eq_false_iff_not];unfold Tp.has;omega))
def Lm (a b:Tp):Int:=if a.first≠b.first then (if a.first<b.first then -1 else 1) else if a.count≠b.count then (if b.count<a.count then -1 else 1) else 0
theorem Aos (a b:Tp):XC Tryz.prog 168 [.agg (Tp.c a), .agg (Tp.c b)] (fun r=>r=dI (Lm a b)):=by
 refine Ao Ac1 Tryz.func168 R R lb<|zr<|XL.step R (Au 2 (l:= [.d (dI a.first), .d (dI a.count), .d (dI a.actual), .d (dI a.normal)]) R R (by kernel_rfl))<|XL.step R (Au 3 (l:= [.d (dI b.first), .d (dI b.count), .d (dI b.actual), .d (dI b.normal)]) R R (by kernel_rfl))<|za R R<|zn<|zs<|zr<|zp (Aa R R By)<|zp (Ab R R Ai R R)<|zp (Aa R R By)<|?_
 refine zp (Ab R R Ai R R)<|zp (Bg R R R)<|zn<|?_
 refine zd R (fun c9=> ?_) (fun c9=> ?_)
 refine zs<|zr<|zp (Aa R R By)<|zp (Ab R R Ai R R)<|zp (Aa R R By)<|zp (Ab R R Ai R R)<|zp (Ar R R R)<|zn<|?_
 refine zd R (fun c14=> ?_) (fun c14=> ?_)
 exact zr<|za R R<|zn<|zt<|z1 R R (rI (by rw [Lm,if_pos c9,if_pos c14]))
 exact zi<|zr<|za R R<|zn<|zt<|z1 R R (rI (by rw [Lm,if_pos c9,if_neg c14]))
 refine zi<|zs<|zr<|zp (Aa R R Dm)<|zp (Ab R R Ai R R)<|zp (Aa R R Dm)<|zp (Ab R R Ai R R)<|zp (Bg R R R)<|zn<|?_
 refine zd R (fun c19=> ?_) (fun c19=> ?_)
 refine zs<|zr<|zp (Aa R R Dm)<|zp (Ab R R Ai R R)<|zp (Aa R R Dm)<|zp (Ab R R Ai R R)<|zp (A8 R R R)<|zn<|?_
 refine zd R (fun c24=> ?_) (fun c24=> ?_)
 exact zr<|za R R<|zn<|zt<|z1 R R (rI (by rw [Lm,if_neg c9,if_pos c19,if_pos c24]))
 exact zi<|zr<|za R R<|zn<|zt<|z1 R R (rI (by rw [Lm,if_neg c9,if_pos c19,if_neg c24]))
 exact zi<|zr<|za R R<|zn<|zt<|z1 R R (rI (by rw [Lm,if_neg c9,if_neg c19]))
theorem Aav (n:Int):XC Tryz.prog 167 [.v (.int .i64 n)] (fun r=>r=dB (decide (1≤n∧n≤32))):=by
 refine Ao Ac2 Tryz.func167 R R lb<|zr<|za R R<|znr<|zm R R<|zp (Dt R R R)<|zm R R<|?_
 refine XL.dec 5 R (fun g5=> ?_) (fun g5=> ?_)
 exact zm R R<|zp (Ft R R R)<|zq R R R<|za R R<|zn<|zt<|z1 R R (rB (by rw [decide_eq_decide];omega))
 exact zk 2 R<|zq R R R<|za R R<|zn<|zt<|z1 R R (rB (by rw [eq_comm,decide_eq_false_iff_not];omega))
theorem Api {a b:Int} (ha:0≤a) (hb:0<b):Int.gcd b (a % b)=Int.gcd a b:=by
 rw [Int.gcd_comm a b,Int.gcd_comm b (a % b),Int.gcd_comm b a]
 obtain ⟨m,rfl⟩:=Int.eq_ofNat_of_zero_le ha
 obtain ⟨n,rfl⟩:=Int.eq_ofNat_of_zero_le (Int.le_of_lt hb)
 rw [show ((m:Int) % (n:Int))=((m % n:Nat):Int) from by simp]
 simp only [Int.gcd_natCast_natCast]
 rw [Nat.gcd_comm m n, ←Nat.gcd_rec n m]
theorem Akm (a b:Int) (ha:0≤a) (hb:0≤b):XC Tryz.prog 190 [.v (.int .i64 a), .v (.int .i64 b)] (fun r=>r=dI (Int.gcd a b)):=by
 refine Ao Acg Tryz.func190 R R lb<|zr<|za R R<|zn<|zs<|Ah<|?_
 refine Ax (α:=Int × Int) (fun p=>0≤p.1∧0≤p.2∧Int.gcd p.1 p.2=Int.gcd a b) (fun p=>mkF [(0, .d (dI p.1)),(1, .d (dI p.2)),(4, .d (dI 0))]) (fun p=>mkH []) (fun p=>p.2.toNat) ((a,b)) (⟨ha,hb,R⟩) ?_ ?_ ?_
 exact fz ⟨sr,sr,sr,trivial⟩
 exact HSub.nil
 intro p hk0
 obtain ⟨h1,h2,h3⟩:=hk0
 refine zs<|zr<|zm R R<|zp (A8 R R R)<|zn<|?_
 refine zd R (fun c6=> ?_) (fun c6=> ?_)
 refine zi<|Ah<|Bk [] (by kernel_rfl) (by kernel_rfl) (by kernel_rfl) (by decide)<|ym R R<|ym R R<|ym R R<|yp (Ek R R R (by omega) (by omega))<|ya R R<|ya R R<|?_
 refine ChK.nil ⟨by kernel_rfl, ?_⟩
 refine Ig<|?_
 exact Ak ((p.2,p.1 % p.2)) (⟨h2,Int.emod_nonneg _ (by omega),by rw [←h3];exact Api h1 c6⟩) (by have:=Int.emod_lt_of_pos p.1 c6;have:=Int.emod_nonneg p.1 (show p.2≠0 by omega);simp only;omega) (fz ⟨sr,sr,sr,trivial⟩) (HSub.nil)
 have he:p.2=0:=by omega
 have hg:p.1=(Int.gcd a b:Int):=by rw [←h3,he,Int.gcd_zero_right];omega
 exact An<|zr<|zm R R<|za R R<|zn<|zt<|z1 R R (rI hg)
theorem L5 {a b:Int} (h:0≤a) (h1:1≤b):a≤a*b:=by
 have:=Int.mul_le_mul_of_nonneg_left h1 h
 omega
def hits (l:List Tp) (n:Int):Nat:=(l.filter fun t=>decide (t.has n)).length
def Gf (n:Int) (p:Int × Int) (t:Tp):Int × Int:=
 if t.has n then (p.1*t.normal / (Int.gcd (p.1*t.normal) (p.2*t.actual):Int),p.2*t.actual / (Int.gcd (p.1*t.normal) (p.2*t.actual):Int)) else p
def Bb (l:List Tp) (n:Int):Int × Int:=l.foldl (Gf n) (1,1)
theorem Iw (l:List Tp) (t:Tp) (n:Int):hits (l++ [t]) n=hits l n+(if t.has n then 1 else 0):=by
 unfold hits
 rw [List.filter_append,List.length_append]
 by_cases h:t.has n<;>simp [h]
theorem O2 (l:List Tp) (k:Nat) (n:Int):hits (l.take k) n≤hits l n:=by
 unfold hits
 exact ((List.take_sublist k l).filter _).length_le
theorem Y6 (l:List Tp) (k:Nat) (n:Int):hits (l.drop k) n≤hits l n:=by
 unfold hits
 exact ((List.drop_sublist k l).filter _).length_le
theorem M4 (l:List Tp) (t:Tp) (n:Int):Bb (l++ [t]) n=Gf n (Bb l n) t:=by
 unfold Bb
 rw [List.foldl_append]
 rfl
theorem W9 {l:List Tp} (h:∀t∈l,t.ok) (k:Nat):∀t∈l.take k,t.ok:=fun t ht=>h t (List.mem_of_mem_take ht)
theorem Ah6 {l:List Tp} (h:∀t∈l,t.ok) (k:Nat):∀t∈l.drop k,t.ok:=fun t ht=>h t (List.mem_of_mem_drop ht)
theorem Na {a b:Int} (ha:1≤a) (hb:1≤b):1≤a / (Int.gcd a b:Int)∧a / (Int.gcd a b:Int)≤a∧1≤(Int.gcd a b:Int)∧(Int.gcd a b:Int)≤a:=by
 have hg:0<Int.gcd a b:=Int.gcd_pos_of_ne_zero_left b (by omega)
 have hd:(Int.gcd a b:Int) ∣ a:=Int.gcd_dvd_left a b
 have hle:(Int.gcd a b:Int)≤a:=Int.le_of_dvd (by omega) hd
 refine ⟨?_,Int.ediv_le_self _ (by omega),by omega,hle⟩
 exact (Int.le_ediv_iff_mul_le (by omega)).2 (by omega)
theorem Aff {n:Int} {p:Int × Int} {t:Tp} (ht:t.ok) {B:Int} (h1:1≤p.1) (h2:p.1≤B) (h3:1≤p.2) (h4:p.2≤B):
  1≤(Gf n p t).1∧(Gf n p t).1≤(if t.has n then B*32 else B)∧1≤(Gf n p t).2∧(Gf n p t).2≤(if t.has n then B*32 else B):=by
 unfold Gf
 obtain ⟨_,_,_,_,q1,q2,q3,q4⟩:=ht
 split
 ·have e1:1≤p.1*t.normal:=Int.le_trans h1 (L5 (by omega) q3)
  have e2:1≤p.2*t.actual:=Int.le_trans h3 (L5 (by omega) q1)
  have e3:p.1*t.normal≤B*32:=Int.mul_le_mul h2 q4 (by omega) (by omega)
  have e4:p.2*t.actual≤B*32:=Int.mul_le_mul h4 q2 (by omega) (by omega)
  have g1:=Na e1 e2
  have g2:=Na e2 e1
  rw [Int.gcd_comm] at g2
  exact ⟨g1.1,by omega,g2.1,by omega⟩
 ·exact ⟨h1,h2,h3,h4⟩
theorem Lw {α:Type} {p:List α→Prop} (h0:p []) (hs:∀l a,p l→p (l++ [a])) (l:List α):p l:=by
 have:∀k,k≤l.length→p (l.take k):=by
  intro k
  induction k with
  |zero=>intro _;rw [List.take_zero];exact h0
  |succ k ih=>
   intro hk
   have e:l[k]? =some l[k]:=List.getElem?_eq_getElem (by omega)
   rw [Bo e]
   exact hs _ _ (ih (by omega))
 have h:=this l.length (Nat.le_refl _)
 rwa [List.take_length] at h
theorem Ry (l:List Tp) (n:Int):(∀t∈l,t.ok)→1≤(Bb l n).1∧(Bb l n).1≤32 ^ hits l n∧1≤(Bb l n).2∧(Bb l n).2≤32 ^ hits l n:=by
 refine Lw (p:=fun l=>(∀t∈l,t.ok)→1≤(Bb l n).1∧(Bb l n).1≤32 ^ hits l n∧1≤(Bb l n).2∧(Bb l n).2≤32 ^ hits l n) (fun _=>by simp [Bb,hits]) (fun l t ih hl=> ?_) l
 obtain ⟨h1,h2,h3,h4⟩:=ih (fun t ht=>hl t (List.mem_append_left _ ht))
 have:=Aff (n:=n) (hl t (List.mem_append_right _ (List.mem_singleton.2 rfl))) h1 h2 h3 h4
 rw [M4,Iw]
 split at this
 ·rename_i h;rw [if_pos h,Int.pow_succ];exact this
 ·rename_i h;rw [if_neg h];exact this
theorem Um {l:List Tp} {n:Int} (hl:∀t∈l,t.ok) (h:hits l n≤3):1≤(Bb l n).1∧(Bb l n).1≤32768∧1≤(Bb l n).2∧(Bb l n).2≤32768:=by
 have:=Ry l n hl
 have e:(32:Int) ^ hits l n≤32768:=by
  generalize hits l n=k at*
  match k,h with
  |0,_=>decide
  |1,_=>decide
  |2,_=>decide
  |3,_=>decide
  |k+4,h=>omega
 omega
theorem Yh {l:List Tp} {k:Nat} {t:Tp} {n:Int} (h:l[k]? =some t) (ht:t.has n):Bb (l.take (k+1)) n=((Bb (l.take k) n).1*t.normal / (Int.gcd ((Bb (l.take k) n).1*t.normal) ((Bb (l.take k) n).2*t.actual):Int),(Bb (l.take k) n).2*t.actual / (Int.gcd ((Bb (l.take k) n).1*t.normal) ((Bb (l.take k) n).2*t.actual):Int)):=by
 rw [Bo h,M4,Gf,if_pos ht]
theorem V2 {l:List Tp} {k:Nat} {t:Tp} {n:Int} (h:l[k]? =some t) (ht:¬t.has n):Bb (l.take (k+1)) n=Bb (l.take k) n:=by
 rw [Bo h,M4,Gf,if_neg ht]
theorem Ajj (l:List Tp) (n:Int) (hl:∀t∈l,t.ok) (hh:hits l n≤3) (h0:0≤n) (h1:n≤128):XC Tryz.prog 181 [.sl 4 (l.map Tp.c), .v (.int .i64 n)] (fun r=>r= .tup [dI (Bb l n).1,dI (Bb l n).2]):=by
 refine Ao Aco Tryz.func181 R R lb<|zr<|za R R<|za R R<|znr<|za R R<|za R R<|zn<|zs<|zr<|zm R R<|XL.len R R R Tryz.underlying23 fun hl10=>zm R R<|zn<|?_
 refine Ah<|?_
 refine Ax (α:=Nat) (fun k=>k≤l.length) (fun k=>mkF [(1, .d (dI n)),(4, .d (dI (Bb (l.take k) n).1)),(5, .d (dI (Bb (l.take k) n).2)),(9, .d (.sl 4 (l.map Tp.c))),(10, .d (dI l.length)),(11, .d (dI k))]) (fun k=>mkH []) (fun k=>l.length - k) (0) (Nat.zero_le _) ?_ ?_ ?_
 exact fz ⟨sr,sr,sr,sr,sr,sr,trivial⟩
 exact HSub.nil
 intro k hk0
 refine zr<|zp (Ar R R R)<|zn<|zs<|?_
 refine zd R (fun c12=> ?_) (fun c12=> ?_)
 have hk0a:k<l.length:=by omega
 obtain ⟨x0,hx0⟩:=At hk0a
 have hok:x0.ok:=hl x0 (List.mem_of_getElem? hx0)
 have hb:=Um (n:=n) (W9 hl k) (Nat.le_trans (O2 l k n) hh)
 have hok2:=hok
 simp only [Tp.ok] at hok2
 have e1:1≤(Bb (l.take k) n).1*x0.normal:=Int.le_trans hb.1 (L5 (by omega) (by omega))
 have e2:1≤(Bb (l.take k) n).2*x0.actual:=Int.le_trans hb.2.2.1 (L5 (by omega) (by omega))
 have e3:(Bb (l.take k) n).1*x0.normal≤32768*32:=Int.mul_le_mul hb.2.1 (by omega) (by omega) (by omega)
 have e4:(Bb (l.take k) n).2*x0.actual≤32768*32:=Int.mul_le_mul hb.2.2.2 (by omega) (by omega) (by omega)
 have g1:=Na e1 e2
 refine zi<|zs<|Ah<|zr<|zp (Am R R R D4 hx0)<|zp (Ae (s':= .d (.agg (Tp.c x0))) (Av R R Cb lb) (by kernel_rfl))<|XL.step R (A4 7 (l:= [.d (dI 0), .d (dI 0), .d (dI 0), .d (dI 0)]) R C9 (by kernel_rfl))<|XL.step R (Ag (l':= [.d (dI x0.first), .d (dI x0.count), .d (dI x0.actual), .d (dI x0.normal)]) R R R R Ef R lb (by kernel_rfl))<|znr<|?_
 refine zp (Ae (s':= .d (.agg (Tp.c x0))) (Ac (Ad R R Cb R lb)) (by kernel_rfl))<|zm R R<|XL.call1 R R (Ts _ _ (by assumption) (by omega) (by omega)) R<|zn<|?_
 refine zd R (fun c17=> ?_) (fun c17=> ?_)
 refine zs<|Bk [] (by kernel_rfl) (by kernel_rfl) (by kernel_rfl) (by decide)<|ym R R<|yp (Aa R R O6)<|yp (Ab R R Ai R R)<|yp (Hv R R R (by omega) (by omega))<|ym R R<|yp (Aa R R Mr)<|yp (Ab R R Ai R R)<|yp (Hv R R R (by omega) (by omega))<|ya R R<|ya R R<|?_
 refine ChK.nil ⟨by kernel_rfl, ?_⟩
 refine zr<|zm R R<|zm R R<|XL.call1 R R (Akm _ _ (by omega) (by omega)) R<|za R R<|zn<|Bk [] (by kernel_rfl) (by kernel_rfl) (by kernel_rfl) (by decide)<|ym R R<|ym R R<|yp (Gs R R R (by omega) (by omega) (by omega))<|ym R R<|ym R R<|yp (Gs R R R (by omega) (by omega) (by omega))<|ya R R<|?_
 refine ya R R<|?_
 refine ChK.nil ⟨by kernel_rfl, ?_⟩
 refine Af (by kernel_rfl)<|zp (Aj R R R (by omega) (by omega))<|zm R R<|zn<|?_
 exact Ak (k+1) (by omega) (by omega) (fz ⟨sr, .same (sI (by rw [Yh hx0 c17])), .same (sI (by rw [Yh hx0 c17])),sr,sr,sr,trivial⟩) (HSub.nil)
 refine zi<|Af (by kernel_rfl)<|zp (Aj R R R (by omega) (by omega))<|zm R R<|zn<|?_
 exact Ak (k+1) (by omega) (by omega) (fz ⟨sr, .same (sI (by rw [V2 hx0 c17])), .same (sI (by rw [V2 hx0 c17])),sr,sr,sr,trivial⟩) (HSub.nil)
 have hk0b:k=l.length:=by omega
 have ht:l.take k=l:=by rw [hk0b,List.take_length]
 refine An<|zr<|zm R R<|zm R R<|za R R<|za R R<|zn<|zt<|?_
 exact Bl R (RV.tmp R R) (RV.tmp R R) (r2 (rI (by rw [ht])) (rI (by rw [ht])))
def Eg (l:List Tp) (n w:Int):Int:=if w<0∨7741440<w then 0 else if w*(Bb l n).1 % (Bb l n).2≠0 then 0 else w*(Bb l n).1 / (Bb l n).2
def Eh (l:List Tp) (n w:Int):Int:=if w<0∨7741440<w then 2 else if w*(Bb l n).1 % (Bb l n).2≠0 then 16 else 0
theorem Hz {l:List Tp} {n w:Int} (h:w<0∨7741440<w):0=Eg l n w∧2=Eh l n w:=by simp only [Eg,Eh,if_pos h];exact ⟨trivial,trivial⟩
theorem W5 {l:List Tp} {n w:Int} (h1:¬w<0) (h2:¬7741440<w) (h:w*(Bb l n).1 % (Bb l n).2≠0):0=Eg l n w∧16=Eh l n w:=by simp only [Eg,Eh,if_neg (show ¬(w<0∨7741440<w) by omega),if_pos h];exact ⟨trivial,trivial⟩
theorem St {l:List Tp} {n w:Int} (h1:¬w<0) (h2:¬7741440<w) (h:¬w*(Bb l n).1 % (Bb l n).2≠0):w*(Bb l n).1 / (Bb l n).2=Eg l n w∧0=Eh l n w:=by simp only [Eg,Eh,if_neg (show ¬(w<0∨7741440<w) by omega),if_neg h];exact ⟨trivial,trivial⟩
theorem Ub {l:List Tp} {n w:Int} (hl:∀t∈l,t.ok) (hh:hits l n≤3):0≤Eg l n w∧Eg l n w≤253671505920:=by
 have hb:=Um hl hh
 unfold Eg
 split
 ·omega
 ·split
  ·omega
  ·have e1:0≤w*(Bb l n).1:=Int.mul_nonneg (by omega) (by omega)
   have e2:w*(Bb l n).1≤7741440*32768:=Int.mul_le_mul (by omega) hb.2.1 (by omega) (by omega)
   exact ⟨Int.ediv_nonneg e1 (by omega),Int.le_trans (Int.ediv_le_self _ e1) (by omega)⟩
theorem Aan (l:List Tp) (n w:Int) (hl:∀t∈l,t.ok) (hh:hits l n≤3) (h0:0≤n) (h1:n≤128):XC Tryz.prog 163 [.sl 4 (l.map Tp.c), .v (.int .i64 n), .v (.int .i64 w)] (fun r=>r= .tup [dI (Eg l n w),dI (Eh l n w)]):=by
 have hb:=Um hl hh
 refine Ao Ac5 Tryz.func163 R R lb<|zr<|za R R<|za R R<|zn<|zs<|zr<|zm R R<|zp (Ar R R R)<|zm R R<|?_
 refine XL.dec 12 R (fun g12=> ?_) (fun g12=> ?_)
 refine zk 2 R<|zq R R R<|zn<|Aq (by kernel_rfl) R<|zr<|za R R<|za R R<|zn<|zt<|?_
 exact Bl R (RV.tmp R R) (RV.tmp R R) (r2 (rI (Hz (.inl g12)).1) (rI (Hz (l:=l) (n:=n) (.inl g12)).2))
 refine zm R R<|zp (A8 R R R)<|zq R R R<|zn<|?_
 refine zd R (fun c15=> ?_) (fun c15=> ?_)
 refine zr<|za R R<|za R R<|zn<|zt<|?_
 exact Bl R (RV.tmp R R) (RV.tmp R R) (r2 (rI (Hz (.inr c15)).1) (rI (Hz (l:=l) (n:=n) (.inr c15)).2))
 refine zi<|zr<|zm R R<|zm R R<|XL.call1 R R (Ajj _ _ (by assumption) (by assumption) (by omega) (by omega)) R<|zm R R<|zp (Bc R R R)<|zp (Bc R R R)<|za R R<|za R R<|zn<|zs<|zs<|?_
 have e1:0≤w*(Bb l n).1:=Int.mul_nonneg (by omega) (by omega)
 have e2:w*(Bb l n).1≤7741440*32768:=Int.mul_le_mul (by omega) hb.2.1 (by omega) (by omega)
 refine Af (by kernel_rfl)<|zm R R<|zm R R<|zp (Hv R R R (by omega) (by omega))<|zm R R<|zp (Ek R R R (by omega) (by omega))<|zp (Bg R R R)<|zn<|?_
 refine zd R (fun c27=> ?_) (fun c27=> ?_)
 refine zr<|za R R<|za R R<|zn<|zt<|?_
 exact Bl R (RV.tmp R R) (RV.tmp R R) (r2 (rI (W5 g12 c15 c27).1) (rI (W5 g12 c15 c27).2))
 refine zi<|zr<|zm R R<|zm R R<|zp (Hv R R R (by omega) (by omega))<|zm R R<|zp (Gs R R R (by omega) (by omega) (by omega))<|za R R<|za R R<|zn<|zt<|?_
 exact Bl R (RV.tmp R R) (RV.tmp R R) (r2 (rI (St g12 c15 c27).1) (rI (St g12 c15 c27).2))
end Go.Proofs.YtcihalbakenleaaGreat
namespace Go.Proofs.YtcihalbakenleaaGreat
open Go.RowKit
def Tp.inR (t:Tp) (n:Int):Prop:=1≤t.count∧t.count≤n∧0≤t.first∧t.first≤n - t.count∧(1≤t.actual∧t.actual≤32)∧(1≤t.normal∧t.normal≤32)∧t.actual≠t.normal
instance (t:Tp) (n:Int):Decidable (t.inR n):=by unfold Tp.inR;exact inferInstance
theorem Tp.inR.ok {t:Tp} {n:Int} (h:t.inR n) (hn:n≤128):t.ok:=by unfold Tp.inR at h;unfold Tp.ok;omega
def C2 (t:Tp):List Tp→List Tp
 | []=> []
 |o::r=>if o.e≤t.first then C2 t r else o::r
def D3 (t:Tp) (s:List Tp):Prop:=s.length=3∨match s with| []=>False|o::_=>o.e<t.e
instance (t:Tp) (s:List Tp):Decidable (D3 t s):=by unfold D3;cases s<;>exact inferInstance
def Is (p:Option Tp) (t:Tp):Prop:=match p with|some q=>0<Lm q t|none=>False
instance (p:Option Tp) (t:Tp):Decidable (Is p t):=by unfold Is;cases p<;>exact inferInstance
def E9 (n:Int):Option Tp→List Tp→List Tp→Int
 |_,_, []=>0
 |p,s,t::l=>if ¬t.inR n then 2 else if Is p t then 25 else if D3 t (C2 t s) then 21 else E9 n (some t) (t::C2 t s) l
def Eq (l:List Tp) (n:Int):Int:=if n<0∨128<n then 2 else if 16<l.length then 9 else E9 n none [] l
def stk (l:List Tp) (k:Nat):List Tp:=(l.take k).foldl (fun s t=>t::C2 t s) []
def M5 (l:List Tp) (k:Nat):Option Tp:=match k with|0=>none|k+1=>l[k]?
theorem Cd {l:List Tp} {k:Nat} {t:Tp} (h:l[k]? =some t):stk l (k+1)=t::C2 t (stk l k):=by
 unfold stk;rw [Bo h,List.foldl_append];rfl
theorem Fe (l:List Tp) (k:Nat):M5 l (k+1)=l[k]? :=rfl
theorem J3 (t:Tp) (s:List Tp):∀x∈C2 t s,x∈s:=by
 induction s with
 |nil=>exact fun x hx=>hx
 |cons o r ih=>
  intro x hx
  unfold C2 at hx
  split at hx
  ·exact List.mem_cons_of_mem _ (ih x hx)
  ·exact hx
theorem Aoh (t:Tp) (s:List Tp):(C2 t s).length≤s.length:=by
 induction s with
 |nil=>exact Nat.le_refl _
 |cons o r ih=>
  unfold C2
  split
  ·exact Nat.le_trans ih (Nat.le_succ _)
  ·exact Nat.le_refl _
theorem Aa1 {t o:Tp} {r s:List Tp} (hs:s=o::r) (h:o.e≤t.first):C2 t s=C2 t r:=by rw [hs,C2,if_pos h]
theorem Ah1 {t o:Tp} {r s:List Tp} (hs:s=o::r) (h:¬o.e≤t.first):C2 t s=s:=by rw [hs,C2,if_neg h]
theorem Aa2 {t:Tp} {s:List Tp} (hs:¬(0:Int)<s.reverse.length):C2 t s=s:=by
 have:s= []:=List.eq_nil_of_length_eq_zero (by rw [List.length_reverse] at hs;omega)
 rw [this];rfl
theorem Pv {s:List Tp} (h:(0:Int)<s.reverse.length):∃o r,s=o::r:=by
 cases s with
 |nil=>simp at h
 |cons o r=>exact ⟨o,r,rfl⟩
theorem Nd {s r:List Tp} {o:Tp} (h:s=o::r):s.reverse[s.length - 1]? =some o:=by rw [h];simp
theorem Mj {s r:List Tp} {o:Tp} (h:s=o::r):((s.reverse).length:Int) - 1=((s.length - 1:Nat):Int):=by rw [h];simp
theorem Pu {s r:List Tp} {o:Tp} (h:s=o::r):s.length - 1<s.reverse.length:=by rw [h];simp
theorem Ahk {s r:List Tp} {o:Tp} (h:s=o::r):some (XO.row 102 4 ((s.reverse.map Tp.c).take (s.length - 1)))=some (XO.row 102 4 (r.reverse.map Tp.c)):=by
 rw [h, ←List.map_take];simp
theorem Jv {s:List Tp} {t:Tp} {l:List Tp} (h:l=t::s):some (XO.row 102 4 (s.reverse.map Tp.c++ [Tp.c t]))=some (XO.row 102 4 (l.reverse.map Tp.c)):=by
 rw [h];simp
theorem V8 {t:Tp} {s:List Tp} (h:(s.reverse.length:Int)=3):D3 t s:= .inl (by rw [List.length_reverse] at h;omega)
theorem Qt {t o:Tp} {s r:List Tp} (hs:s=o::r) (h:o.e<t.e):D3 t s:=by subst hs;exact .inr h
theorem Sz {t o:Tp} {s r:List Tp} (h3:¬(s.reverse.length:Int)=3) (hs:s=o::r) (h:¬o.e<t.e):¬D3 t s:=by
 subst hs;rw [List.length_reverse] at h3;exact fun k=>k.elim (fun k=>by omega) h
theorem Qu {t:Tp} {s:List Tp} (h3:¬(s.reverse.length:Int)=3) (h:¬(0:Int)<s.reverse.length):¬D3 t s:=by
 have:s= []:=List.eq_nil_of_length_eq_zero (by rw [List.length_reverse] at h;omega)
 subst this;exact fun k=>k.elim (fun k=>by simp at k) fun k=>k
theorem Dr {n:Int} {l:List Tp} {k:Nat} {t:Tp} {p s} (h:l[k]? =some t) (h1:¬t.inR n):E9 n p s (l.drop k)=2:=by rw [C0 h,E9,if_pos h1]
theorem Tf {n:Int} {l:List Tp} {k:Nat} {t:Tp} {p s} (h:l[k]? =some t) (h1:t.inR n) (h2:Is p t):E9 n p s (l.drop k)=25:=by rw [C0 h,E9,if_neg (fun h=>h h1),if_pos h2]
theorem Fd {n:Int} {l:List Tp} {k:Nat} {t:Tp} {p s} (h:l[k]? =some t) (h1:t.inR n) (h2:¬Is p t) (h3:D3 t (C2 t s)):E9 n p s (l.drop k)=21:=by rw [C0 h,E9,if_neg (fun h=>h h1),if_neg h2,if_pos h3]
theorem Gn {n:Int} {l:List Tp} {k:Nat} {t:Tp} {p s} (h:l[k]? =some t) (h1:t.inR n) (h2:¬Is p t) (h3:¬D3 t (C2 t s)):E9 n p s (l.drop k)=E9 n (some t) (t::C2 t s) (l.drop (k+1)):=by
 rw [C0 h,E9,if_neg (fun h=>h h1),if_neg h2,if_neg h3]
theorem Zn {l:List Tp} {n:Int} (h:n<0∨128<n):2=Eq l n:=by rw [Eq,if_pos h]
theorem Ap0 {l:List Tp} {n:Int} (h:¬n<0) (h1:¬128<n) (h2:16<(l.length:Int)):9=Eq l n:=by rw [Eq,if_neg (by omega),if_pos (by omega)]
theorem D9 {l:List Tp} {n e:Int} (h:¬n<0) (h1:¬128<n) (h2:¬16<(l.length:Int)) (he:e=E9 n none [] l):e=Eq l n:=by rw [Eq,if_neg (by omega),if_neg (by omega),he]
theorem Wx {l:List Tp} {k:Nat} {t:Tp} (h:¬(0:Int)<k):¬Is (M5 l k) t:=by
 have:k=0:=by omega
 subst this;exact fun h=>h
theorem Rg {l:List Tp} {k:Nat} {t q:Tp} (hk:0<k) (h:l[k - 1]? =some q):Is (M5 l k) t↔0<Lm q t:=by
 cases k with
 |zero=>omega
 |succ k=>rw [Fe,show l[k]? =some q from h];exact Iff.rfl
theorem X3 (l:List Tp) (n:Int):XC Tryz.prog 139 [.sl 4 (l.map Tp.c), .v (.int .i64 n)] (fun r=>r=dI (Eq l n)):=by
 refine Ao Adt Tryz.func139 R R lb<|zr<|za R R<|zn<|zs<|zr<|zm R R<|zp (Ar R R R)<|zm R R<|?_
 refine XL.dec 11 R (fun g11=> ?_) (fun g11=> ?_)
 exact zk 2 R<|zq R R R<|zn<|Aq (by kernel_rfl) R<|zr<|za R R<|zn<|zt<|z1 R R (rI (Zn (by omega)))
 refine zm R R<|zp (A8 R R R)<|zq R R R<|zn<|?_
 refine zd R (fun c14=> ?_) (fun c14=> ?_)
 exact zr<|za R R<|zn<|zt<|z1 R R (rI (Zn (by omega)))
 refine zi<|zs<|zr<|zm R R<|XL.len R R R Tryz.underlying23 fun hl16=>zp (A8 R R R)<|zn<|?_
 refine zd R (fun c17=> ?_) (fun c17=> ?_)
 exact zr<|za R R<|zn<|zt<|z1 R R (rI (Ap0 g11 c14 c17))
 refine zi<|zr<|XL.step R (A4 5 (l:= [.d (.v (.slice none 0 0))]) R Aqn (by kernel_rfl))<|znr<|zp (Ajp R)<|zp (As R (by conv=>lhs;whnf))<|?_
 refine zn<|zs<|zr<|zm R R<|XL.len R R R Tryz.underlying23 fun hl20=>zm R R<|zn<|Ah<|Kt 900 5 0 102 4 (l':= [.own 900]) R R (by decide) (by kernel_rfl)<|?_
 refine Ax (α:=Nat) (fun k=>k≤l.length∧E9 n (M5 l k) (stk l k) (l.drop k)=E9 n none [] l∧(stk l k).length≤3∧∀t∈stk l k,t.inR n) (fun k=>mkF [(0, .d (.sl 4 (l.map Tp.c))),(1, .d (dI n)),(6, .fn 165 [] [.ptr 5 0 0]),(19, .d (.sl 4 (l.map Tp.c))),(20, .d (dI l.length)),(21, .d (dI k))]) (fun k=>mkH [(5, .box [.own 900]),(900, .row 102 4 ((stk l k).reverse.map Tp.c))]) (fun k=>l.length - k) (0) (⟨Nat.zero_le _,by rw [List.drop_zero];rfl,Nat.zero_le _,fun t ht=>by cases ht⟩) ?_ ?_ ?_
 exact fz ⟨sr,sr,sr,sr,sr,sr,trivial⟩
 exact gz ⟨R,R,trivial⟩
 intro k hk0
 obtain ⟨hk,hgo,hst,hall⟩:=hk0
 refine zr<|zp (Ar R R R)<|zn<|zs<|?_
 refine zd R (fun c22=> ?_) (fun c22=> ?_)
 have hk0a:k<l.length:=by omega
 obtain ⟨x0,hx0⟩:=At hk0a
 refine zi<|zs<|Ah<|zr<|zm R R<|zp (Am R R R D4 hx0)<|zp (Ae (s':= .d (.agg (Tp.c x0))) (Av R R Cb lb) (by kernel_rfl))<|XL.step R (A4 8 (l:= [.d (dI 0), .d (dI 0), .d (dI 0), .d (dI 0)]) R C9 (by kernel_rfl))<|za R R<|?_
 refine XL.step R (Ag (l':= [.d (dI x0.first), .d (dI x0.count), .d (dI x0.actual), .d (dI x0.normal)]) R R R R Ef R lb (by kernel_rfl))<|zn<|zs<|zr<|zp (Aa R R Dm)<|zp (Ab R R Ai R R)<|zp (Ar R R R)<|zm R R<|?_
 refine XL.dec 29 R (fun g29=> ?_) (fun g29=> ?_)
 refine zk 4 R<|zq R R R<|zm R R<|zk 3 R<|zq R R R<|zm R R<|zk 7 R<|zq R R R<|zm R R<|zk 4 R<|zq R R R<|zm R R<|zk 4 R<|zq R R R<|?_
 exact zm R R<|zk 5 R<|zq R R R<|zn<|Aq (by kernel_rfl) R<|zr<|za R R<|zn<|zt<|z1 R R (rI (D9 g11 c14 c17 (by rw [←hgo,Dr hx0 (by unfold Tp.inR;omega)])))
 refine zp (Aa R R Dm)<|zp (Ab R R Ai R R)<|zm R R<|zp (A8 R R R)<|zq R R R<|zm R R<|?_
 refine XL.dec 35 R (fun g35=> ?_) (fun g35=> ?_)
 refine zk 3 R<|zq R R R<|zm R R<|zk 7 R<|zq R R R<|zm R R<|zk 4 R<|zq R R R<|zm R R<|zk 4 R<|zq R R R<|zm R R<|zk 5 R<|zq R R R<|?_
 exact zn<|Aq (by kernel_rfl) R<|zr<|za R R<|zn<|zt<|z1 R R (rI (D9 g11 c14 c17 (by rw [←hgo,Dr hx0 (by unfold Tp.inR;omega)])))
 refine zp (Aa R R By)<|zp (Ab R R Ai R R)<|zp (Ar R R R)<|zq R R R<|zm R R<|?_
 refine XL.dec 40 R (fun g40=> ?_) (fun g40=> ?_)
 refine zk 7 R<|zq R R R<|zm R R<|zk 4 R<|zq R R R<|zm R R<|zk 4 R<|zq R R R<|zm R R<|zk 5 R<|zq R R R<|zn<|Aq (by kernel_rfl) R<|zr<|?_
 exact za R R<|zn<|zt<|z1 R R (rI (D9 g11 c14 c17 (by rw [←hgo,Dr hx0 (by unfold Tp.inR;omega)])))
 refine zp (Aa R R By)<|zp (Ab R R Ai R R)<|zm R R<|zp (Aa R R Dm)<|zp (Ab R R Ai R R)<|zp (C7 R R R (by omega) (by omega))<|zp (A8 R R R)<|zq R R R<|zm R R<|?_
 refine XL.dec 49 R (fun g49=> ?_) (fun g49=> ?_)
 exact zk 4 R<|zq R R R<|zm R R<|zk 4 R<|zq R R R<|zm R R<|zk 5 R<|zq R R R<|zn<|Aq (by kernel_rfl) R<|zr<|za R R<|zn<|zt<|z1 R R (rI (D9 g11 c14 c17 (by rw [←hgo,Dr hx0 (by unfold Tp.inR;omega)])))
 refine zp (Aa R R Mr)<|zp (Ab R R Ai R R)<|XL.call1 R R (Aav _) R<|zp (B2 R R)<|zq R R R<|zm R R<|?_
 refine XL.dec 55 R (fun g55=> ?_) (fun g55=> ?_)
 exact zk 4 R<|zq R R R<|zm R R<|zk 5 R<|zq R R R<|zn<|Aq (by kernel_rfl) R<|zr<|za R R<|zn<|zt<|z1 R R (rI (D9 g11 c14 c17 (by rw [←hgo,Dr hx0 (by unfold Tp.inR;omega)])))
 refine zp (Aa R R O6)<|zp (Ab R R Ai R R)<|XL.call1 R R (Aav _) R<|zp (B2 R R)<|zq R R R<|zm R R<|?_
 refine XL.dec 61 R (fun g61=> ?_) (fun g61=> ?_)
 exact zk 5 R<|zq R R R<|zn<|Aq (by kernel_rfl) R<|zr<|za R R<|zn<|zt<|z1 R R (rI (D9 g11 c14 c17 (by rw [←hgo,Dr hx0 (by unfold Tp.inR;omega)])))
 refine zp (Aa R R Mr)<|zp (Ab R R Ai R R)<|zp (Aa R R O6)<|zp (Ab R R Ai R R)<|zp (A1 R R R)<|zq R R R<|zn<|?_
 refine zd R (fun c67=> ?_) (fun c67=> ?_)
 exact zr<|za R R<|zn<|zt<|z1 R R (rI (D9 g11 c14 c17 (by rw [←hgo,Dr hx0 (by unfold Tp.inR;omega)])))
 have hin:x0.inR n:=by unfold Tp.inR;omega
 have hok:x0.ok:=hin.ok (by omega)
 refine zi<|zs<|zs<|?_
 by_cases q69:(0:Int)<(k:Int)
 obtain ⟨q,hq⟩:∃q,l[k - 1]? =some q:=At (by omega)
 refine Bk [] (by kernel_rfl) (by kernel_rfl) (by kernel_rfl) (by decide)<|ym R R<|yp (Dy (A8 R R R) (q69))<|ym R R<|ym R R<|ym R R<|yp (C7 R R R (by omega) (by omega))<|yp (Gt R R R (by omega:(k:Int) - 1=((k - 1:Nat):Int)) D4 hq)<|yp (Ae (s':= .d (.agg (Tp.c q))) (Av R R Cb lb) (by kernel_rfl))<|?_
 refine yp (Ae (s':= .d (.agg (Tp.c x0))) (Ac (Ad R R Cb R lb)) (by kernel_rfl))<|ChK.cons R (CStep.call R (Aos _ _) R)<|yp (A8 R R R)<|yp (A6 R R (by conv=>lhs;whnf))<|?_
 refine ChK.nil ⟨by kernel_rfl, ?_⟩
 refine zd R (fun c79=> ?_) (fun c79=> ?_)
 exact zr<|za R R<|zn<|zt<|z1 R R (rI (D9 g11 c14 c17 (by rw [←hgo,Tf hx0 hin ((Rg (by omega) hq).2 c79)])))
 have hna:¬Is (M5 l k) x0:=fun h=>c79 ((Rg (by omega) hq).1 h)
 refine zi<|zr<|zp (Aw R (by conv=>lhs;whnf))<|?_
 refine zp (Ae (s':= .d (.agg (Tp.c x0))) (Ac (Ad R R Cb R lb)) (by kernel_rfl))<|?_
 refine XL.inl 900001 [(0, .d (.sl 4 (l.map Tp.c))),(1, .d (dI n)),(6, .fn 165 [] [.ptr 5 0 0]),(19, .d (.sl 4 (l.map Tp.c))),(20, .d (dI l.length)),(21, .d (dI k))] R R .s Sg Tryz.func165 R R lb (by simp only [List.forall_mem_cons];exact ⟨⟨Nat.le_of_ble_eq_true rfl,rfl⟩,⟨⟨Nat.le_of_ble_eq_true rfl,rfl⟩,⟨⟨Nat.le_of_ble_eq_true rfl,rfl⟩,⟨⟨Nat.le_of_ble_eq_true rfl,rfl⟩,⟨⟨Nat.le_of_ble_eq_true rfl,rfl⟩,⟨⟨Nat.le_of_ble_eq_true rfl,rfl⟩,fun p hp=>(by cases hp)⟩⟩⟩⟩⟩⟩) fun u1=>?_
 refine zr<|XL.step R (Au 1002 (l:= [.d (dI x0.first), .d (dI x0.count), .d (dI x0.actual), .d (dI x0.normal)]) R R (by kernel_rfl))<|za R R<|zn<|zs<|Ah<|?_
 refine Ax (α:=List Tp) (fun s=>C2 x0 s=C2 x0 (stk l k)∧s.length≤3∧∀t∈s,t.inR n) (fun s=>mkF [(1, .ptr 5 0 0),(2, .ptr 1002 0 0),(3, .d (dB false))]) (fun s=>mkH [(5, .box [.own 900]),(900, .row 102 4 (s.reverse.map Tp.c)),(1002, .box ((Tp.c x0).map S.d)),(900001, .ghost u1 [(0, .d (.sl 4 (l.map Tp.c))),(1, .d (dI n)),(6, .fn 165 [] [.ptr 5 0 0]),(19, .d (.sl 4 (l.map Tp.c))),(20, .d (dI l.length)),(21, .d (dI k))])]) (fun s=>s.length) ((stk l k)) (⟨R,hst,hall⟩) ?_ ?_ ?_
 exact fz ⟨sr,sr,sr,trivial⟩
 exact gz ⟨R,R,R,R,trivial⟩
 intro s hk0i
 obtain ⟨hp,hl3,hso⟩:=hk0i
 have hrl:s.reverse.length=s.length:=List.length_reverse
 refine zs<|zs<|?_
 by_cases q7i:(0:Int)<(s.reverse.length:Int)
 obtain ⟨o,r,hs⟩:=Pv q7i
 have hoo:o.ok:=(hso o (by rw [hs];exact List.mem_cons_self)).ok (by omega)
 refine Bk [] (by kernel_rfl) (by kernel_rfl) (by kernel_rfl) (by decide)<|yp (Ab R R B0 R R)<|yp (Cf R R R Tryz.underlying23)<|yp (Dy (A8 R R R) (q7i))<|ym R R<|yp (Ab R R B0 R R)<|yp (Ab R R B0 R R)<|yp (Cf R R R Tryz.underlying23)<|yp (C7 R R R (by omega) (by omega))<|yp (Cr R R R (Mj hs) R D4 (Pu hs))<|?_
 refine yp (Ae (s':= .d (.agg (Tp.c o))) (Ez R R Cb R (Ce (Nd hs)) lb) (by kernel_rfl))<|ChK.cons R (CStep.call R (Il _ (by assumption)) R)<|yp (Aa R R By)<|yp (Ab R R Ai R R)<|yp (Ft R R R)<|yp (A6 R R (by conv=>lhs;whnf))<|?_
 refine ChK.nil ⟨by kernel_rfl, ?_⟩
 refine zd R (fun c19i=> ?_) (fun c19i=> ?_)
 refine zi<|Ah<|Af (by kernel_rfl)<|zp (Ab R R B0 R R)<|zp (Ab R R B0 R R)<|zp (Cf R R R Tryz.underlying23)<|zp (C7 R R R (by omega) (by omega))<|XL.step R (Vj R R R D4 (Bd.ati R (Mj hs)) (by simp))<|XL.step R (Ag (l':= [.own 900]) R R R R Hb R lb (by kernel_rfl))<|zn<|Ig<|?_
 exact Ak (r) (⟨by rw [←Aa1 hs c19i];exact hp,by rw [hs] at hl3;simp at hl3;omega,fun t ht=>hso t (by rw [hs];exact List.mem_cons_of_mem _ ht)⟩) (by rw [hs];simp) (fz ⟨sr,sr,sr,trivial⟩) (gz ⟨rfl,Ahk hs,rfl,rfl,trivial⟩)
 have hend:=Ah1 hs c19i
 refine An<|zs<|zr<|zp (Ab R R B0 R R)<|zp (Cf R R R Tryz.underlying23)<|za R R<|zn<|zs<|?_
 by_cases q28i:(s.reverse.length:Int)=(3:Int)
 have hov:D3 x0 (C2 x0 (stk l k)):=by rw [←hp,hend];exact V8 q28i
 refine Bk [] (by kernel_rfl) (by kernel_rfl) (by kernel_rfl) (by decide)<|ym R R<|yp (Dy (A1 R R R) (q28i))<|ym R R<|ChK.skip R<|ChK.skip R<|ChK.skip R<|ChK.skip R<|ChK.skip R<|ChK.skip R<|ChK.skip R<|ChK.skip R<|ChK.skip R<|ChK.skip R<|?_
 refine ChK.skip R<|ChK.skip R<|ChK.skip R<|yp (A6 R R (by conv=>lhs;whnf))<|?_
 refine ChK.nil ⟨by kernel_rfl, ?_⟩
 refine Aq (by kernel_rfl) R<|zr<|za R R<|zn<|zt<|?_
 refine (Gv (l:= [(0, .d (.sl 4 (l.map Tp.c))),(1, .d (dI n)),(6, .fn 165 [] [.ptr 5 0 0]),(19, .d (.sl 4 (l.map Tp.c))),(20, .d (dI l.length)),(21, .d (dI k))]) (by kernel_rfl) (rs1 R (RV.tmp R R)) ?_).2
 exact zp (Dd R R)<|zn<|Aq (by kernel_rfl) R<|zr<|za R R<|zn<|zt<|z1 R R (rI (D9 g11 c14 c17 (by rw [←hgo,Fd hx0 hin hna hov])))
 by_cases q31i:(0:Int)<(s.reverse.length:Int)
 obtain ⟨o,r,hs⟩:=Pv q31i
 have hoo:o.ok:=(hso o (by rw [hs];exact List.mem_cons_self)).ok (by omega)
 refine Bk [] (by kernel_rfl) (by kernel_rfl) (by kernel_rfl) (by decide)<|ym R R<|yp (Gg (A1 R R R) (q28i))<|ym R R<|ym R R<|yp (Dy (A8 R R R) (q31i))<|ym R R<|yp (Ae (s':= .d (.agg (Tp.c x0))) (Ac (Ad R R Cb R lb)) (by kernel_rfl))<|ChK.cons R (CStep.call R (Il _ (by assumption)) R)<|yp (Ab R R B0 R R)<|ym R R<|?_
 refine yp (C7 R R R (by omega) (by omega))<|yp (Cr R R R (Mj hs) R D4 (Pu hs))<|yp (Ae (s':= .d (.agg (Tp.c o))) (Ez R R Cb R (Ce (Nd hs)) lb) (by kernel_rfl))<|ChK.cons R (CStep.call R (Il _ (by assumption)) R)<|yp (A8 R R R)<|yp (A6 R R (by conv=>lhs;whnf))<|?_
 refine yp (A6 R R (by conv=>lhs;whnf))<|?_
 refine ChK.nil ⟨by kernel_rfl, ?_⟩
 refine zd R (fun c43i=> ?_) (fun c43i=> ?_)
 have hov:D3 x0 (C2 x0 (stk l k)):=by rw [←hp,hend];exact Qt hs c43i
 refine zr<|za R R<|zn<|zt<|?_
 refine (Gv (l:= [(0, .d (.sl 4 (l.map Tp.c))),(1, .d (dI n)),(6, .fn 165 [] [.ptr 5 0 0]),(19, .d (.sl 4 (l.map Tp.c))),(20, .d (dI l.length)),(21, .d (dI k))]) (by kernel_rfl) (rs1 R (RV.tmp R R)) ?_).2
 exact zp (Dd R R)<|zn<|Aq (by kernel_rfl) R<|zr<|za R R<|zn<|zt<|z1 R R (rI (D9 g11 c14 c17 (by rw [←hgo,Fd hx0 hin hna hov])))
 have hov:¬D3 x0 (C2 x0 (stk l k)):=by rw [←hp,hend];exact Sz q28i hs c43i
 refine zi<|zr<|zp (Ab R R B0 R R)<|zp (Ae (s':= .d (.agg (Tp.c x0))) (Ac (Ad R R Cb R lb)) (by kernel_rfl))<|XL.step R (Bj 1046 R Tryz.underlying23 Ef C9 R R (by omega) (by omega))<|XL.step R (A3 R Gy (.own R) (Src.own R) (by unfold maxLen;simp;omega) (by simp;omega))<|?_
 refine XL.step R (Ag (l':= [.own 900]) R R R R Hb R lb (by kernel_rfl))<|znr<|za R R<|zn<|zt<|?_
 refine (Gv (l:= [(0, .d (.sl 4 (l.map Tp.c))),(1, .d (dI n)),(6, .fn 165 [] [.ptr 5 0 0]),(19, .d (.sl 4 (l.map Tp.c))),(20, .d (dI l.length)),(21, .d (dI k))]) (by kernel_rfl) (rs1 R (RV.tmp R R)) ?_).2
 refine zp (Dd R R)<|zn<|A7 (by kernel_rfl) R<|zi<|Af (by kernel_rfl)<|zp (Aj R R R (by omega) (by omega))<|zm R R<|zn<|?_
 exact Ak (k+1) (⟨by omega,by rw [Fe,hx0,Cd hx0, ←Gn hx0 hin hna hov];exact hgo,by rw [Cd hx0,List.length_cons, ←hp,hend];omega,fun t ht=>by rw [Cd hx0] at ht;rcases List.mem_cons.1 ht with e|e;(· rw [e];exact hin);(· exact hall t (J3 _ _ t e))⟩) (by omega) (fz ⟨sr,sr,sr,sr,sr,sr,trivial⟩) (gz ⟨rfl,Jv (by rw [Cd hx0, ←hp,hend]),trivial⟩)
 have hov:¬D3 x0 (C2 x0 (stk l k)):=by rw [←hp,hend];exact Qu q28i q31i
 refine Bk [] (by kernel_rfl) (by kernel_rfl) (by kernel_rfl) (by decide)<|ym R R<|yp (Gg (A1 R R R) (q28i))<|ym R R<|ym R R<|yp (Gg (A8 R R R) (q31i))<|ym R R<|ChK.skip R<|ChK.skip R<|ChK.skip R<|ChK.skip R<|ChK.skip R<|ChK.skip R<|ChK.skip R<|?_
 refine ChK.skip R<|ChK.skip R<|yp (A6 R R (by conv=>lhs;whnf))<|?_
 refine yp (A6 R R (by conv=>lhs;whnf))<|?_
 refine ChK.nil ⟨by kernel_rfl, ?_⟩
 refine A7 (by kernel_rfl) R<|zi<|zr<|zp (Ab R R B0 R R)<|zp (Ae (s':= .d (.agg (Tp.c x0))) (Ac (Ad R R Cb R lb)) (by kernel_rfl))<|XL.step R (Bj 1046 R Tryz.underlying23 Ef C9 R R (by omega) (by omega))<|XL.step R (A3 R Gy (.own R) (Src.own R) (by unfold maxLen;simp;omega) (by simp;omega))<|?_
 refine XL.step R (Ag (l':= [.own 900]) R R R R Hb R lb (by kernel_rfl))<|znr<|za R R<|zn<|zt<|?_
 refine (Gv (l:= [(0, .d (.sl 4 (l.map Tp.c))),(1, .d (dI n)),(6, .fn 165 [] [.ptr 5 0 0]),(19, .d (.sl 4 (l.map Tp.c))),(20, .d (dI l.length)),(21, .d (dI k))]) (by kernel_rfl) (rs1 R (RV.tmp R R)) ?_).2
 refine zp (Dd R R)<|zn<|A7 (by kernel_rfl) R<|zi<|Af (by kernel_rfl)<|zp (Aj R R R (by omega) (by omega))<|zm R R<|zn<|?_
 exact Ak (k+1) (⟨by omega,by rw [Fe,hx0,Cd hx0, ←Gn hx0 hin hna hov];exact hgo,by rw [Cd hx0,List.length_cons, ←hp,hend];omega,fun t ht=>by rw [Cd hx0] at ht;rcases List.mem_cons.1 ht with e|e;(· rw [e];exact hin);(· exact hall t (J3 _ _ t e))⟩) (by omega) (fz ⟨sr,sr,sr,sr,sr,sr,trivial⟩) (gz ⟨rfl,Jv (by rw [Cd hx0, ←hp,hend]),trivial⟩)
 have hend:=Aa2 (t:=x0) q7i
 refine Bk [] (by kernel_rfl) (by kernel_rfl) (by kernel_rfl) (by decide)<|yp (Ab R R B0 R R)<|yp (Cf R R R Tryz.underlying23)<|yp (Gg (A8 R R R) (q7i))<|ym R R<|ChK.skip R<|ChK.skip R<|ChK.skip R<|ChK.skip R<|ChK.skip R<|ChK.skip R<|ChK.skip R<|ChK.skip R<|ChK.skip R<|?_
 refine ChK.skip R<|yp (A6 R R (by conv=>lhs;whnf))<|?_
 refine ChK.nil ⟨by kernel_rfl, ?_⟩
 refine A7 (by kernel_rfl) R<|An<|zs<|zr<|zp (Ab R R B0 R R)<|zp (Cf R R R Tryz.underlying23)<|za R R<|zn<|zs<|?_
 by_cases q28i:(s.reverse.length:Int)=(3:Int)
 have hov:D3 x0 (C2 x0 (stk l k)):=by rw [←hp,hend];exact V8 q28i
 refine Bk [] (by kernel_rfl) (by kernel_rfl) (by kernel_rfl) (by decide)<|ym R R<|yp (Dy (A1 R R R) (q28i))<|ym R R<|ChK.skip R<|ChK.skip R<|ChK.skip R<|ChK.skip R<|ChK.skip R<|ChK.skip R<|ChK.skip R<|ChK.skip R<|ChK.skip R<|ChK.skip R<|?_
 refine ChK.skip R<|ChK.skip R<|ChK.skip R<|yp (A6 R R (by conv=>lhs;whnf))<|?_
 refine ChK.nil ⟨by kernel_rfl, ?_⟩
 refine Aq (by kernel_rfl) R<|zr<|za R R<|zn<|zt<|?_
 refine (Gv (l:= [(0, .d (.sl 4 (l.map Tp.c))),(1, .d (dI n)),(6, .fn 165 [] [.ptr 5 0 0]),(19, .d (.sl 4 (l.map Tp.c))),(20, .d (dI l.length)),(21, .d (dI k))]) (by kernel_rfl) (rs1 R (RV.tmp R R)) ?_).2
 exact zp (Dd R R)<|zn<|Aq (by kernel_rfl) R<|zr<|za R R<|zn<|zt<|z1 R R (rI (D9 g11 c14 c17 (by rw [←hgo,Fd hx0 hin hna hov])))
 by_cases q31i:(0:Int)<(s.reverse.length:Int)
 obtain ⟨o,r,hs⟩:=Pv q31i
 have hoo:o.ok:=(hso o (by rw [hs];exact List.mem_cons_self)).ok (by omega)
 refine Bk [] (by kernel_rfl) (by kernel_rfl) (by kernel_rfl) (by decide)<|ym R R<|yp (Gg (A1 R R R) (q28i))<|ym R R<|ym R R<|yp (Dy (A8 R R R) (q31i))<|ym R R<|yp (Ae (s':= .d (.agg (Tp.c x0))) (Ac (Ad R R Cb R lb)) (by kernel_rfl))<|ChK.cons R (CStep.call R (Il _ (by assumption)) R)<|yp (Ab R R B0 R R)<|ym R R<|?_
 refine yp (C7 R R R (by omega) (by omega))<|yp (Cr R R R (Mj hs) R D4 (Pu hs))<|yp (Ae (s':= .d (.agg (Tp.c o))) (Ez R R Cb R (Ce (Nd hs)) lb) (by kernel_rfl))<|ChK.cons R (CStep.call R (Il _ (by assumption)) R)<|yp (A8 R R R)<|yp (A6 R R (by conv=>lhs;whnf))<|?_
 refine yp (A6 R R (by conv=>lhs;whnf))<|?_
 refine ChK.nil ⟨by kernel_rfl, ?_⟩
 refine zd R (fun c43i=> ?_) (fun c43i=> ?_)
 have hov:D3 x0 (C2 x0 (stk l k)):=by rw [←hp,hend];exact Qt hs c43i
 refine zr<|za R R<|zn<|zt<|?_
 refine (Gv (l:= [(0, .d (.sl 4 (l.map Tp.c))),(1, .d (dI n)),(6, .fn 165 [] [.ptr 5 0 0]),(19, .d (.sl 4 (l.map Tp.c))),(20, .d (dI l.length)),(21, .d (dI k))]) (by kernel_rfl) (rs1 R (RV.tmp R R)) ?_).2
 exact zp (Dd R R)<|zn<|Aq (by kernel_rfl) R<|zr<|za R R<|zn<|zt<|z1 R R (rI (D9 g11 c14 c17 (by rw [←hgo,Fd hx0 hin hna hov])))
 have hov:¬D3 x0 (C2 x0 (stk l k)):=by rw [←hp,hend];exact Sz q28i hs c43i
 refine zi<|zr<|zp (Ab R R B0 R R)<|zp (Ae (s':= .d (.agg (Tp.c x0))) (Ac (Ad R R Cb R lb)) (by kernel_rfl))<|XL.step R (Bj 1046 R Tryz.underlying23 Ef C9 R R (by omega) (by omega))<|XL.step R (A3 R Gy (.own R) (Src.own R) (by unfold maxLen;simp;omega) (by simp;omega))<|?_
 refine XL.step R (Ag (l':= [.own 900]) R R R R Hb R lb (by kernel_rfl))<|znr<|za R R<|zn<|zt<|?_
 refine (Gv (l:= [(0, .d (.sl 4 (l.map Tp.c))),(1, .d (dI n)),(6, .fn 165 [] [.ptr 5 0 0]),(19, .d (.sl 4 (l.map Tp.c))),(20, .d (dI l.length)),(21, .d (dI k))]) (by kernel_rfl) (rs1 R (RV.tmp R R)) ?_).2
 refine zp (Dd R R)<|zn<|A7 (by kernel_rfl) R<|zi<|Af (by kernel_rfl)<|zp (Aj R R R (by omega) (by omega))<|zm R R<|zn<|?_
 exact Ak (k+1) (⟨by omega,by rw [Fe,hx0,Cd hx0, ←Gn hx0 hin hna hov];exact hgo,by rw [Cd hx0,List.length_cons, ←hp,hend];omega,fun t ht=>by rw [Cd hx0] at ht;rcases List.mem_cons.1 ht with e|e;(· rw [e];exact hin);(· exact hall t (J3 _ _ t e))⟩) (by omega) (fz ⟨sr,sr,sr,sr,sr,sr,trivial⟩) (gz ⟨rfl,Jv (by rw [Cd hx0, ←hp,hend]),trivial⟩)
 have hov:¬D3 x0 (C2 x0 (stk l k)):=by rw [←hp,hend];exact Qu q28i q31i
 refine Bk [] (by kernel_rfl) (by kernel_rfl) (by kernel_rfl) (by decide)<|ym R R<|yp (Gg (A1 R R R) (q28i))<|ym R R<|ym R R<|yp (Gg (A8 R R R) (q31i))<|ym R R<|ChK.skip R<|ChK.skip R<|ChK.skip R<|ChK.skip R<|ChK.skip R<|ChK.skip R<|ChK.skip R<|?_
 refine ChK.skip R<|ChK.skip R<|yp (A6 R R (by conv=>lhs;whnf))<|?_
 refine yp (A6 R R (by conv=>lhs;whnf))<|?_
 refine ChK.nil ⟨by kernel_rfl, ?_⟩
 refine A7 (by kernel_rfl) R<|zi<|zr<|zp (Ab R R B0 R R)<|zp (Ae (s':= .d (.agg (Tp.c x0))) (Ac (Ad R R Cb R lb)) (by kernel_rfl))<|XL.step R (Bj 1046 R Tryz.underlying23 Ef C9 R R (by omega) (by omega))<|XL.step R (A3 R Gy (.own R) (Src.own R) (by unfold maxLen;simp;omega) (by simp;omega))<|?_
 refine XL.step R (Ag (l':= [.own 900]) R R R R Hb R lb (by kernel_rfl))<|znr<|za R R<|zn<|zt<|?_
 refine (Gv (l:= [(0, .d (.sl 4 (l.map Tp.c))),(1, .d (dI n)),(6, .fn 165 [] [.ptr 5 0 0]),(19, .d (.sl 4 (l.map Tp.c))),(20, .d (dI l.length)),(21, .d (dI k))]) (by kernel_rfl) (rs1 R (RV.tmp R R)) ?_).2
 refine zp (Dd R R)<|zn<|A7 (by kernel_rfl) R<|zi<|Af (by kernel_rfl)<|zp (Aj R R R (by omega) (by omega))<|zm R R<|zn<|?_
 exact Ak (k+1) (⟨by omega,by rw [Fe,hx0,Cd hx0, ←Gn hx0 hin hna hov];exact hgo,by rw [Cd hx0,List.length_cons, ←hp,hend];omega,fun t ht=>by rw [Cd hx0] at ht;rcases List.mem_cons.1 ht with e|e;(· rw [e];exact hin);(· exact hall t (J3 _ _ t e))⟩) (by omega) (fz ⟨sr,sr,sr,sr,sr,sr,trivial⟩) (gz ⟨rfl,Jv (by rw [Cd hx0, ←hp,hend]),trivial⟩)
 have hna:=Wx (l:=l) (t:=x0) q69
 refine Bk [] (by kernel_rfl) (by kernel_rfl) (by kernel_rfl) (by decide)<|ym R R<|yp (Gg (A8 R R R) (q69))<|ym R R<|ChK.skip R<|ChK.skip R<|ChK.skip R<|ChK.skip R<|ChK.skip R<|ChK.skip R<|ChK.skip R<|ChK.skip R<|yp (A6 R R (by conv=>lhs;whnf))<|?_
 refine ChK.nil ⟨by kernel_rfl, ?_⟩
 refine A7 (by kernel_rfl) R<|zi<|zr<|zp (Aw R (by conv=>lhs;whnf))<|?_
 refine zp (Ae (s':= .d (.agg (Tp.c x0))) (Ac (Ad R R Cb R lb)) (by kernel_rfl))<|?_
 refine XL.inl 900002 [(0, .d (.sl 4 (l.map Tp.c))),(1, .d (dI n)),(6, .fn 165 [] [.ptr 5 0 0]),(19, .d (.sl 4 (l.map Tp.c))),(20, .d (dI l.length)),(21, .d (dI k))] R R .s Sg Tryz.func165 R R lb (by simp only [List.forall_mem_cons];exact ⟨⟨Nat.le_of_ble_eq_true rfl,rfl⟩,⟨⟨Nat.le_of_ble_eq_true rfl,rfl⟩,⟨⟨Nat.le_of_ble_eq_true rfl,rfl⟩,⟨⟨Nat.le_of_ble_eq_true rfl,rfl⟩,⟨⟨Nat.le_of_ble_eq_true rfl,rfl⟩,⟨⟨Nat.le_of_ble_eq_true rfl,rfl⟩,fun p hp=>(by cases hp)⟩⟩⟩⟩⟩⟩) fun u2=>?_
 refine zr<|XL.step R (Au 2002 (l:= [.d (dI x0.first), .d (dI x0.count), .d (dI x0.actual), .d (dI x0.normal)]) R R (by kernel_rfl))<|za R R<|zn<|zs<|Ah<|?_
 refine Ax (α:=List Tp) (fun s=>C2 x0 s=C2 x0 (stk l k)∧s.length≤3∧∀t∈s,t.inR n) (fun s=>mkF [(1, .ptr 5 0 0),(2, .ptr 2002 0 0),(3, .d (dB false))]) (fun s=>mkH [(5, .box [.own 900]),(900, .row 102 4 (s.reverse.map Tp.c)),(2002, .box ((Tp.c x0).map S.d)),(900002, .ghost u2 [(0, .d (.sl 4 (l.map Tp.c))),(1, .d (dI n)),(6, .fn 165 [] [.ptr 5 0 0]),(19, .d (.sl 4 (l.map Tp.c))),(20, .d (dI l.length)),(21, .d (dI k))])]) (fun s=>s.length) ((stk l k)) (⟨R,hst,hall⟩) ?_ ?_ ?_
 exact fz ⟨sr,sr,sr,trivial⟩
 exact gz ⟨R,R,R,R,trivial⟩
 intro s hk0i
 obtain ⟨hp,hl3,hso⟩:=hk0i
 have hrl:s.reverse.length=s.length:=List.length_reverse
 refine zs<|zs<|?_
 by_cases q7i:(0:Int)<(s.reverse.length:Int)
 obtain ⟨o,r,hs⟩:=Pv q7i
 have hoo:o.ok:=(hso o (by rw [hs];exact List.mem_cons_self)).ok (by omega)
 refine Bk [] (by kernel_rfl) (by kernel_rfl) (by kernel_rfl) (by decide)<|yp (Ab R R B0 R R)<|yp (Cf R R R Tryz.underlying23)<|yp (Dy (A8 R R R) (q7i))<|ym R R<|yp (Ab R R B0 R R)<|yp (Ab R R B0 R R)<|yp (Cf R R R Tryz.underlying23)<|yp (C7 R R R (by omega) (by omega))<|yp (Cr R R R (Mj hs) R D4 (Pu hs))<|?_
 refine yp (Ae (s':= .d (.agg (Tp.c o))) (Ez R R Cb R (Ce (Nd hs)) lb) (by kernel_rfl))<|ChK.cons R (CStep.call R (Il _ (by assumption)) R)<|yp (Aa R R By)<|yp (Ab R R Ai R R)<|yp (Ft R R R)<|yp (A6 R R (by conv=>lhs;whnf))<|?_
 refine ChK.nil ⟨by kernel_rfl, ?_⟩
 refine zd R (fun c19i=> ?_) (fun c19i=> ?_)
 refine zi<|Ah<|Af (by kernel_rfl)<|zp (Ab R R B0 R R)<|zp (Ab R R B0 R R)<|zp (Cf R R R Tryz.underlying23)<|zp (C7 R R R (by omega) (by omega))<|XL.step R (Vj R R R D4 (Bd.ati R (Mj hs)) (by simp))<|XL.step R (Ag (l':= [.own 900]) R R R R Hb R lb (by kernel_rfl))<|zn<|Ig<|?_
 exact Ak (r) (⟨by rw [←Aa1 hs c19i];exact hp,by rw [hs] at hl3;simp at hl3;omega,fun t ht=>hso t (by rw [hs];exact List.mem_cons_of_mem _ ht)⟩) (by rw [hs];simp) (fz ⟨sr,sr,sr,trivial⟩) (gz ⟨rfl,Ahk hs,rfl,rfl,trivial⟩)
 have hend:=Ah1 hs c19i
 refine An<|zs<|zr<|zp (Ab R R B0 R R)<|zp (Cf R R R Tryz.underlying23)<|za R R<|zn<|zs<|?_
 by_cases q28i:(s.reverse.length:Int)=(3:Int)
 have hov:D3 x0 (C2 x0 (stk l k)):=by rw [←hp,hend];exact V8 q28i
 refine Bk [] (by kernel_rfl) (by kernel_rfl) (by kernel_rfl) (by decide)<|ym R R<|yp (Dy (A1 R R R) (q28i))<|ym R R<|ChK.skip R<|ChK.skip R<|ChK.skip R<|ChK.skip R<|ChK.skip R<|ChK.skip R<|ChK.skip R<|ChK.skip R<|ChK.skip R<|ChK.skip R<|?_
 refine ChK.skip R<|ChK.skip R<|ChK.skip R<|yp (A6 R R (by conv=>lhs;whnf))<|?_
 refine ChK.nil ⟨by kernel_rfl, ?_⟩
 refine Aq (by kernel_rfl) R<|zr<|za R R<|zn<|zt<|?_
 refine (Gv (l:= [(0, .d (.sl 4 (l.map Tp.c))),(1, .d (dI n)),(6, .fn 165 [] [.ptr 5 0 0]),(19, .d (.sl 4 (l.map Tp.c))),(20, .d (dI l.length)),(21, .d (dI k))]) (by kernel_rfl) (rs1 R (RV.tmp R R)) ?_).2
 exact zp (Dd R R)<|zn<|Aq (by kernel_rfl) R<|zr<|za R R<|zn<|zt<|z1 R R (rI (D9 g11 c14 c17 (by rw [←hgo,Fd hx0 hin hna hov])))
 by_cases q31i:(0:Int)<(s.reverse.length:Int)
 obtain ⟨o,r,hs⟩:=Pv q31i
 have hoo:o.ok:=(hso o (by rw [hs];exact List.mem_cons_self)).ok (by omega)
 refine Bk [] (by kernel_rfl) (by kernel_rfl) (by kernel_rfl) (by decide)<|ym R R<|yp (Gg (A1 R R R) (q28i))<|ym R R<|ym R R<|yp (Dy (A8 R R R) (q31i))<|ym R R<|yp (Ae (s':= .d (.agg (Tp.c x0))) (Ac (Ad R R Cb R lb)) (by kernel_rfl))<|ChK.cons R (CStep.call R (Il _ (by assumption)) R)<|yp (Ab R R B0 R R)<|ym R R<|?_
 refine yp (C7 R R R (by omega) (by omega))<|yp (Cr R R R (Mj hs) R D4 (Pu hs))<|yp (Ae (s':= .d (.agg (Tp.c o))) (Ez R R Cb R (Ce (Nd hs)) lb) (by kernel_rfl))<|ChK.cons R (CStep.call R (Il _ (by assumption)) R)<|yp (A8 R R R)<|yp (A6 R R (by conv=>lhs;whnf))<|?_
 refine yp (A6 R R (by conv=>lhs;whnf))<|?_
 refine ChK.nil ⟨by kernel_rfl, ?_⟩
 refine zd R (fun c43i=> ?_) (fun c43i=> ?_)
 have hov:D3 x0 (C2 x0 (stk l k)):=by rw [←hp,hend];exact Qt hs c43i
 refine zr<|za R R<|zn<|zt<|?_
 refine (Gv (l:= [(0, .d (.sl 4 (l.map Tp.c))),(1, .d (dI n)),(6, .fn 165 [] [.ptr 5 0 0]),(19, .d (.sl 4 (l.map Tp.c))),(20, .d (dI l.length)),(21, .d (dI k))]) (by kernel_rfl) (rs1 R (RV.tmp R R)) ?_).2
 exact zp (Dd R R)<|zn<|Aq (by kernel_rfl) R<|zr<|za R R<|zn<|zt<|z1 R R (rI (D9 g11 c14 c17 (by rw [←hgo,Fd hx0 hin hna hov])))
 have hov:¬D3 x0 (C2 x0 (stk l k)):=by rw [←hp,hend];exact Sz q28i hs c43i
 refine zi<|zr<|zp (Ab R R B0 R R)<|zp (Ae (s':= .d (.agg (Tp.c x0))) (Ac (Ad R R Cb R lb)) (by kernel_rfl))<|XL.step R (Bj 2046 R Tryz.underlying23 Ef C9 R R (by omega) (by omega))<|XL.step R (A3 R Gy (.own R) (Src.own R) (by unfold maxLen;simp;omega) (by simp;omega))<|?_
 refine XL.step R (Ag (l':= [.own 900]) R R R R Hb R lb (by kernel_rfl))<|znr<|za R R<|zn<|zt<|?_
 refine (Gv (l:= [(0, .d (.sl 4 (l.map Tp.c))),(1, .d (dI n)),(6, .fn 165 [] [.ptr 5 0 0]),(19, .d (.sl 4 (l.map Tp.c))),(20, .d (dI l.length)),(21, .d (dI k))]) (by kernel_rfl) (rs1 R (RV.tmp R R)) ?_).2
 refine zp (Dd R R)<|zn<|A7 (by kernel_rfl) R<|zi<|Af (by kernel_rfl)<|zp (Aj R R R (by omega) (by omega))<|zm R R<|zn<|?_
 exact Ak (k+1) (⟨by omega,by rw [Fe,hx0,Cd hx0, ←Gn hx0 hin hna hov];exact hgo,by rw [Cd hx0,List.length_cons, ←hp,hend];omega,fun t ht=>by rw [Cd hx0] at ht;rcases List.mem_cons.1 ht with e|e;(· rw [e];exact hin);(· exact hall t (J3 _ _ t e))⟩) (by omega) (fz ⟨sr,sr,sr,sr,sr,sr,trivial⟩) (gz ⟨rfl,Jv (by rw [Cd hx0, ←hp,hend]),trivial⟩)
 have hov:¬D3 x0 (C2 x0 (stk l k)):=by rw [←hp,hend];exact Qu q28i q31i
 refine Bk [] (by kernel_rfl) (by kernel_rfl) (by kernel_rfl) (by decide)<|ym R R<|yp (Gg (A1 R R R) (q28i))<|ym R R<|ym R R<|yp (Gg (A8 R R R) (q31i))<|ym R R<|ChK.skip R<|ChK.skip R<|ChK.skip R<|ChK.skip R<|ChK.skip R<|ChK.skip R<|ChK.skip R<|?_
 refine ChK.skip R<|ChK.skip R<|yp (A6 R R (by conv=>lhs;whnf))<|?_
 refine yp (A6 R R (by conv=>lhs;whnf))<|?_
 refine ChK.nil ⟨by kernel_rfl, ?_⟩
 refine A7 (by kernel_rfl) R<|zi<|zr<|zp (Ab R R B0 R R)<|zp (Ae (s':= .d (.agg (Tp.c x0))) (Ac (Ad R R Cb R lb)) (by kernel_rfl))<|XL.step R (Bj 2046 R Tryz.underlying23 Ef C9 R R (by omega) (by omega))<|XL.step R (A3 R Gy (.own R) (Src.own R) (by unfold maxLen;simp;omega) (by simp;omega))<|?_
 refine XL.step R (Ag (l':= [.own 900]) R R R R Hb R lb (by kernel_rfl))<|znr<|za R R<|zn<|zt<|?_
 refine (Gv (l:= [(0, .d (.sl 4 (l.map Tp.c))),(1, .d (dI n)),(6, .fn 165 [] [.ptr 5 0 0]),(19, .d (.sl 4 (l.map Tp.c))),(20, .d (dI l.length)),(21, .d (dI k))]) (by kernel_rfl) (rs1 R (RV.tmp R R)) ?_).2
 refine zp (Dd R R)<|zn<|A7 (by kernel_rfl) R<|zi<|Af (by kernel_rfl)<|zp (Aj R R R (by omega) (by omega))<|zm R R<|zn<|?_
 exact Ak (k+1) (⟨by omega,by rw [Fe,hx0,Cd hx0, ←Gn hx0 hin hna hov];exact hgo,by rw [Cd hx0,List.length_cons, ←hp,hend];omega,fun t ht=>by rw [Cd hx0] at ht;rcases List.mem_cons.1 ht with e|e;(· rw [e];exact hin);(· exact hall t (J3 _ _ t e))⟩) (by omega) (fz ⟨sr,sr,sr,sr,sr,sr,trivial⟩) (gz ⟨rfl,Jv (by rw [Cd hx0, ←hp,hend]),trivial⟩)
 have hend:=Aa2 (t:=x0) q7i
 refine Bk [] (by kernel_rfl) (by kernel_rfl) (by kernel_rfl) (by decide)<|yp (Ab R R B0 R R)<|yp (Cf R R R Tryz.underlying23)<|yp (Gg (A8 R R R) (q7i))<|ym R R<|ChK.skip R<|ChK.skip R<|ChK.skip R<|ChK.skip R<|ChK.skip R<|ChK.skip R<|ChK.skip R<|ChK.skip R<|ChK.skip R<|?_
 refine ChK.skip R<|yp (A6 R R (by conv=>lhs;whnf))<|?_
 refine ChK.nil ⟨by kernel_rfl, ?_⟩
 refine A7 (by kernel_rfl) R<|An<|zs<|zr<|zp (Ab R R B0 R R)<|zp (Cf R R R Tryz.underlying23)<|za R R<|zn<|zs<|?_
 by_cases q28i:(s.reverse.length:Int)=(3:Int)
 have hov:D3 x0 (C2 x0 (stk l k)):=by rw [←hp,hend];exact V8 q28i
 refine Bk [] (by kernel_rfl) (by kernel_rfl) (by kernel_rfl) (by decide)<|ym R R<|yp (Dy (A1 R R R) (q28i))<|ym R R<|ChK.skip R<|ChK.skip R<|ChK.skip R<|ChK.skip R<|ChK.skip R<|ChK.skip R<|ChK.skip R<|ChK.skip R<|ChK.skip R<|ChK.skip R<|?_
 refine ChK.skip R<|ChK.skip R<|ChK.skip R<|yp (A6 R R (by conv=>lhs;whnf))<|?_
 refine ChK.nil ⟨by kernel_rfl, ?_⟩
 refine Aq (by kernel_rfl) R<|zr<|za R R<|zn<|zt<|?_
 refine (Gv (l:= [(0, .d (.sl 4 (l.map Tp.c))),(1, .d (dI n)),(6, .fn 165 [] [.ptr 5 0 0]),(19, .d (.sl 4 (l.map Tp.c))),(20, .d (dI l.length)),(21, .d (dI k))]) (by kernel_rfl) (rs1 R (RV.tmp R R)) ?_).2
 exact zp (Dd R R)<|zn<|Aq (by kernel_rfl) R<|zr<|za R R<|zn<|zt<|z1 R R (rI (D9 g11 c14 c17 (by rw [←hgo,Fd hx0 hin hna hov])))
 by_cases q31i:(0:Int)<(s.reverse.length:Int)
 obtain ⟨o,r,hs⟩:=Pv q31i
 have hoo:o.ok:=(hso o (by rw [hs];exact List.mem_cons_self)).ok (by omega)
 refine Bk [] (by kernel_rfl) (by kernel_rfl) (by kernel_rfl) (by decide)<|ym R R<|yp (Gg (A1 R R R) (q28i))<|ym R R<|ym R R<|yp (Dy (A8 R R R) (q31i))<|ym R R<|yp (Ae (s':= .d (.agg (Tp.c x0))) (Ac (Ad R R Cb R lb)) (by kernel_rfl))<|ChK.cons R (CStep.call R (Il _ (by assumption)) R)<|yp (Ab R R B0 R R)<|ym R R<|?_
 refine yp (C7 R R R (by omega) (by omega))<|yp (Cr R R R (Mj hs) R D4 (Pu hs))<|yp (Ae (s':= .d (.agg (Tp.c o))) (Ez R R Cb R (Ce (Nd hs)) lb) (by kernel_rfl))<|ChK.cons R (CStep.call R (Il _ (by assumption)) R)<|yp (A8 R R R)<|yp (A6 R R (by conv=>lhs;whnf))<|?_
 refine yp (A6 R R (by conv=>lhs;whnf))<|?_
 refine ChK.nil ⟨by kernel_rfl, ?_⟩
 refine zd R (fun c43i=> ?_) (fun c43i=> ?_)
 have hov:D3 x0 (C2 x0 (stk l k)):=by rw [←hp,hend];exact Qt hs c43i
 refine zr<|za R R<|zn<|zt<|?_
 refine (Gv (l:= [(0, .d (.sl 4 (l.map Tp.c))),(1, .d (dI n)),(6, .fn 165 [] [.ptr 5 0 0]),(19, .d (.sl 4 (l.map Tp.c))),(20, .d (dI l.length)),(21, .d (dI k))]) (by kernel_rfl) (rs1 R (RV.tmp R R)) ?_).2
 exact zp (Dd R R)<|zn<|Aq (by kernel_rfl) R<|zr<|za R R<|zn<|zt<|z1 R R (rI (D9 g11 c14 c17 (by rw [←hgo,Fd hx0 hin hna hov])))
 have hov:¬D3 x0 (C2 x0 (stk l k)):=by rw [←hp,hend];exact Sz q28i hs c43i
 refine zi<|zr<|zp (Ab R R B0 R R)<|zp (Ae (s':= .d (.agg (Tp.c x0))) (Ac (Ad R R Cb R lb)) (by kernel_rfl))<|XL.step R (Bj 2046 R Tryz.underlying23 Ef C9 R R (by omega) (by omega))<|XL.step R (A3 R Gy (.own R) (Src.own R) (by unfold maxLen;simp;omega) (by simp;omega))<|?_
 refine XL.step R (Ag (l':= [.own 900]) R R R R Hb R lb (by kernel_rfl))<|znr<|za R R<|zn<|zt<|?_
 refine (Gv (l:= [(0, .d (.sl 4 (l.map Tp.c))),(1, .d (dI n)),(6, .fn 165 [] [.ptr 5 0 0]),(19, .d (.sl 4 (l.map Tp.c))),(20, .d (dI l.length)),(21, .d (dI k))]) (by kernel_rfl) (rs1 R (RV.tmp R R)) ?_).2
 refine zp (Dd R R)<|zn<|A7 (by kernel_rfl) R<|zi<|Af (by kernel_rfl)<|zp (Aj R R R (by omega) (by omega))<|zm R R<|zn<|?_
 exact Ak (k+1) (⟨by omega,by rw [Fe,hx0,Cd hx0, ←Gn hx0 hin hna hov];exact hgo,by rw [Cd hx0,List.length_cons, ←hp,hend];omega,fun t ht=>by rw [Cd hx0] at ht;rcases List.mem_cons.1 ht with e|e;(· rw [e];exact hin);(· exact hall t (J3 _ _ t e))⟩) (by omega) (fz ⟨sr,sr,sr,sr,sr,sr,trivial⟩) (gz ⟨rfl,Jv (by rw [Cd hx0, ←hp,hend]),trivial⟩)
 have hov:¬D3 x0 (C2 x0 (stk l k)):=by rw [←hp,hend];exact Qu q28i q31i
 refine Bk [] (by kernel_rfl) (by kernel_rfl) (by kernel_rfl) (by decide)<|ym R R<|yp (Gg (A1 R R R) (q28i))<|ym R R<|ym R R<|yp (Gg (A8 R R R) (q31i))<|ym R R<|ChK.skip R<|ChK.skip R<|ChK.skip R<|ChK.skip R<|ChK.skip R<|ChK.skip R<|ChK.skip R<|?_
 refine ChK.skip R<|ChK.skip R<|yp (A6 R R (by conv=>lhs;whnf))<|?_
 refine yp (A6 R R (by conv=>lhs;whnf))<|?_
 refine ChK.nil ⟨by kernel_rfl, ?_⟩
 refine A7 (by kernel_rfl) R<|zi<|zr<|zp (Ab R R B0 R R)<|zp (Ae (s':= .d (.agg (Tp.c x0))) (Ac (Ad R R Cb R lb)) (by kernel_rfl))<|XL.step R (Bj 2046 R Tryz.underlying23 Ef C9 R R (by omega) (by omega))<|XL.step R (A3 R Gy (.own R) (Src.own R) (by unfold maxLen;simp;omega) (by simp;omega))<|?_
 refine XL.step R (Ag (l':= [.own 900]) R R R R Hb R lb (by kernel_rfl))<|znr<|za R R<|zn<|zt<|?_
 refine (Gv (l:= [(0, .d (.sl 4 (l.map Tp.c))),(1, .d (dI n)),(6, .fn 165 [] [.ptr 5 0 0]),(19, .d (.sl 4 (l.map Tp.c))),(20, .d (dI l.length)),(21, .d (dI k))]) (by kernel_rfl) (rs1 R (RV.tmp R R)) ?_).2
 refine zp (Dd R R)<|zn<|A7 (by kernel_rfl) R<|zi<|Af (by kernel_rfl)<|zp (Aj R R R (by omega) (by omega))<|zm R R<|zn<|?_
 exact Ak (k+1) (⟨by omega,by rw [Fe,hx0,Cd hx0, ←Gn hx0 hin hna hov];exact hgo,by rw [Cd hx0,List.length_cons, ←hp,hend];omega,fun t ht=>by rw [Cd hx0] at ht;rcases List.mem_cons.1 ht with e|e;(· rw [e];exact hin);(· exact hall t (J3 _ _ t e))⟩) (by omega) (fz ⟨sr,sr,sr,sr,sr,sr,trivial⟩) (gz ⟨rfl,Jv (by rw [Cd hx0, ←hp,hend]),trivial⟩)
 have hk0b:k=l.length:=by omega
 have hz:E9 n none [] l=0:=by rw [←hgo,hk0b,List.drop_length];rfl
 exact An<|zr<|za R R<|zn<|zt<|z1 R R (rI (D9 g11 c14 c17 hz.symm))
end Go.Proofs.YtcihalbakenleaaGreat
namespace Go.Proofs.YtcihalbakenleaaGreat
open Go.RowKit
theorem Y7 (t:Tp) (l:List Tp) (n:Int):hits (t::l) n=hits l n+(if t.has n then 1 else 0):=by
 unfold hits
 rw [List.filter_cons]
 by_cases h:t.has n<;>simp [h]
theorem Ux (l:List Tp) (n:Int):hits l n≤l.length:=List.length_filter_le _ _
theorem Aph (t:Tp) (s:List Tp) (n:Int) (hn:t.first≤n):hits (C2 t s) n=hits s n:=by
 induction s with
 |nil=>rfl
 |cons o r ih=>
  unfold C2
  split
  ·rename_i h
   rw [ih,Y7,if_neg (fun k=>by unfold Tp.has at k;unfold Tp.e at h;omega)]
   rfl
  ·rfl
theorem Ajr {q t:Tp} (h:¬0<Lm q t):q.first≤t.first:=by
 unfold Lm at h
 split at h
 ·split at h<;>omega
 ·omega
theorem Ai3 (n:Int) (l:List Tp):∀(p:Option Tp) (s L:List Tp),E9 n p s l=0→s.length≤3→(∀e,hits L e≤3)→(∀e,(∀q,p=some q→q.first≤e)→hits L e=hits s e)→∀e,hits (L++l) e≤3:=by
 induction l with
 |nil=>intro p s L _ _ h1 _ e;rw [List.append_nil];exact h1 e
 |cons t l ih=>
  intro p s L hz hs h1 h2 e
  rw [E9] at hz
  split at hz
  ·omega
  ·split at hz
   ·omega
   ·rename_i hin hna
    split at hz
    ·omega
    ·rename_i hov
     have hp:∀q,p=some q→q.first≤t.first:=fun q hq=>by subst hq;exact Ajr hna
     have h3:(t::C2 t s).length≤3:=by
      have h4:=Aoh t s
      have h5:¬(C2 t s).length=3:=fun k=>hov (.inl k)
      rw [List.length_cons]
      omega
     have heq:∀e,t.first≤e→hits (L++ [t]) e=hits (t::C2 t s) e:=fun e he=>by
      rw [Iw,Y7,Aph t s e he,h2 e (fun q hq=>Int.le_trans (hp q hq) he)]
     have:=ih (some t) (t::C2 t s) (L++ [t]) hz h3 (fun e=> ?_) (fun e he=>heq e (he t rfl)) e
     ·rw [List.append_assoc] at this;exact this
     ·by_cases he:t.first≤e
      ·rw [heq e he];exact Nat.le_trans (Ux _ _) h3
      ·rw [Iw,if_neg (fun k=>he k.1)];exact h1 e
theorem Anp (n:Int) (l:List Tp):∀(p:Option Tp) (s:List Tp),E9 n p s l=0→∀t∈l,t.inR n:=by
 induction l with
 |nil=>intro p s _ t ht;cases ht
 |cons t l ih=>
  intro p s hz x hx
  rw [E9] at hz
  split at hz
  ·omega
  ·rename_i hin
   split at hz
   ·omega
   ·split at hz
    ·omega
    ·rcases List.mem_cons.1 hx with e|e
     ·rw [e];exact Decidable.not_not.1 hin
     ·exact ih _ _ hz x e
structure Tups (l:List Tp) (n:Int):Prop where
 bd:0≤n∧n≤128
 len:l.length≤16
 inR:∀t∈l,t.inR n
 ok:∀t∈l,t.ok
 hits:∀e,hits l e≤3
theorem Sp {l:List Tp} {n:Int} (h:¬Eq l n≠0):Tups l n:=by
 have h0:Eq l n=0:=by omega
 unfold Eq at h0
 split at h0
 ·omega
 ·split at h0
  ·omega
  ·have hi:=Anp n l _ _ h0
   refine ⟨by omega,by omega,hi,fun t ht=>(hi t ht).ok (by omega),fun e=> ?_⟩
   have:=Ai3 n l none [] [] h0 (by decide) (fun e=>Nat.zero_le _) (fun e _=>rfl) e
   rwa [List.nil_append] at this
def Df (l:List Tp):Nat→List Int→List Int
 |_, []=> []
 |i,w::r=>Eg l i w::Df l (i+1) r
def I3 (l:List Tp):Nat→List Int→Int
 |_, []=>0
 |i,w::r=>if Eh l i w≠0 then Eh l i w else I3 l (i+1) r
def Cz (l:List Tp) (ws:List Int):Int:=if Eq l ws.length≠0 then Eq l ws.length else I3 l 0 ws
def H5 (l:List Tp) (ws:List Int):List Int:=if Cz l ws=0 then Df l 0 ws else []
theorem Ajz (l:List Tp) (a:List Int) (w:Int):∀i,Df l i (a++ [w])=Df l i a++ [Eg l ((i+a.length:Nat):Int) w]:=by
 induction a with
 |nil=>intro i;rfl
 |cons x a ih=>
  intro i
  rw [List.cons_append,Df,ih (i+1),Df,List.cons_append,List.length_cons,show i+1+a.length=i+(a.length+1) by omega]
theorem Tm {l:List Tp} {ws:List Int} {k:Nat} {w:Int} (h:ws[k]? =some w):Df l 0 (ws.take (k+1))=Df l 0 (ws.take k)++ [Eg l (k:Int) w]:=by
 have hk:=(List.getElem?_eq_some_iff.1 h).1
 rw [Bo h,Ajz,List.length_take,Nat.zero_add,Nat.min_eq_left (by omega)]
theorem Jb (l:List Tp) (ws:List Int):∀i,(Df l i ws).length=ws.length:=by
 induction ws with
 |nil=>intro i;rfl
 |cons w r ih=>intro i;rw [Df,List.length_cons,ih,List.length_cons]
theorem X7 {l:List Tp} {ws:List Int} {k:Nat} {w:Int} (h:ws[k]? =some w) (hx:¬Eh l k w≠0):I3 l k (ws.drop k)=I3 l (k+1) (ws.drop (k+1)):=by rw [C0 h,I3,if_neg hx]
theorem J1 {l:List Tp} {ws:List Int} {k:Nat} {w:Int} (h:ws[k]? =some w) (hx:Eh l k w≠0):I3 l k (ws.drop k)=Eh l k w:=by rw [C0 h,I3,if_pos hx]
theorem Vh {l:List Tp} {ws:List Int} (h:Eq l ws.length≠0): []=H5 l ws∧Eq l ws.length=Cz l ws:=by
 have e:Cz l ws=Eq l ws.length:=by rw [Cz,if_pos h]
 exact ⟨by rw [H5,e,if_neg h],e.symm⟩
theorem Mk {l:List Tp} {ws:List Int} (h:¬Eq l ws.length≠0) {e:Int} (he:e=I3 l 0 ws) (hn:e≠0): []=H5 l ws∧e=Cz l ws:=by
 have e2:Cz l ws=e:=by rw [Cz,if_neg h,he]
 exact ⟨by rw [H5,e2,if_neg hn],e2.symm⟩
theorem Vg {l:List Tp} {ws:List Int} (h:¬Eq l ws.length≠0) (he:I3 l 0 ws=0):Df l 0 ws=H5 l ws∧0=Cz l ws:=by
 have e2:Cz l ws=0:=by rw [Cz,if_neg h,he]
 exact ⟨by rw [H5,e2,if_pos rfl],e2.symm⟩
theorem Tg (l:List Tp) (ws:List Int):XC Tryz.prog 133 [.sl 4 (l.map Tp.c), .sl 1 (B8 ws)] (fun r=>r= .tup [.sl 1 (B8 (H5 l ws)),dI (Cz l ws)]):=by
 refine Ao Adz Tryz.func133 R R lb<|zr<|za R R<|za R R<|zn<|zs<|zr<|zm R R<|zm R R<|XL.len R R R Tryz.underlying64 fun hl14=>XL.call1 R R (X3 _ _) R<|za R R<|znr<|zm R R<|?_
 refine zp (Bg R R R)<|zn<|?_
 refine zd R (fun c17=> ?_) (fun c17=> ?_)
 refine zr<|zm R R<|za R R<|za R R<|zn<|zt<|?_
 exact Bl R (RV.nil (sz:=1) R R) (RV.tmp R R) (r2 (rSl (Vh c17).1) (rI (Vh c17).2))
 refine zi<|zs<|?_
 have hT:=Sp c17
 have hbd:=hT.bd
 refine Af (by kernel_rfl)<|zm R R<|XL.len R R R Tryz.underlying64 fun hl20=>XL.step R (Px 21 (m:=0) (z:=(.int .i64 0)) (zs:= [dI 0]) (sz:=1) (bytes:=8) R R R Tryz.underlying64 (by kernel_rfl) (by kernel_rfl) (by kernel_rfl) (by decide) (by decide) (by omega) (by unfold maxLen;omega) (by omega))<|zp (As R (by conv=>lhs;whnf))<|?_
 refine zn<|zs<|zr<|zm R R<|XL.len R R R Tryz.underlying64 fun hl23=>zm R R<|zn<|Ah<|?_
 refine Ax (α:=Nat) (fun k=>k≤ws.length∧I3 l k (ws.drop k)=I3 l 0 ws) (fun k=>mkF [(0, .d (.sl 4 (l.map Tp.c))),(7, .own 21),(22, .d (.sl 1 (B8 ws))),(23, .d (dI ws.length)),(24, .d (dI k))]) (fun k=>mkH [(21, .row 3 1 ((Df l 0 (ws.take k)).map iv))]) (fun k=>ws.length - k) (0) (⟨Nat.zero_le _,by rw [List.drop_zero]⟩) ?_ ?_ ?_
 exact fz ⟨sr,sr,sr,sr,sr,trivial⟩
 exact gz ⟨R,trivial⟩
 intro k hk0
 obtain ⟨hk,hgo⟩:=hk0
 refine zr<|zp (Ar R R R)<|zn<|zs<|?_
 refine zd R (fun c25=> ?_) (fun c25=> ?_)
 have hk0a:k<ws.length:=by omega
 obtain ⟨x0,hx0⟩:=At hk0a
 have hok:=hT.ok
 have hh:=hT.hits k
 have hll:(Df l 0 (ws.take k)).length=k:=by rw [Jb,List.length_take];omega
 refine zi<|zs<|Ah<|zr<|zm R R<|zp (Am R R R C4 hx0)<|zp (A0 R R Ai)<|za R R<|za R R<|znr<|zm R R<|zm R R<|zm R R<|XL.call1 R R (Aan _ _ _ (by assumption) (by assumption) (by omega) (by omega)) R<|?_
 refine zm R R<|zp (Bc R R R)<|zp (Bc R R R)<|za R R<|za R R<|zn<|zs<|zr<|zm R R<|zp (Bg R R R)<|zn<|?_
 refine zd R (fun c37=> ?_) (fun c37=> ?_)
 refine zr<|zm R R<|za R R<|za R R<|zn<|zt<|?_
 exact Bl R (RV.nil (sz:=1) R R) (RV.tmp R R) (r2 (rSl (Mk c17 (by rw [←hgo,J1 hx0 c37]) c37).1) (rI (Mk c17 (by rw [←hgo,J1 hx0 c37]) c37).2))
 refine zi<|Af (by kernel_rfl)<|zp (Aw R (by conv=>lhs;whnf))<|?_
 refine zm R R<|XL.step R (Bj 41 R Tryz.underlying64 Dc E2 R R (by omega) (by omega))<|XL.step R (A3 R Hr (.own R) (Src.own R) (by unfold maxLen;simp;omega) (by simp;omega))<|zp (As R (by conv=>lhs;whnf))<|?_
 refine zn<|Af (by kernel_rfl)<|zp (Aj R R R (by omega) (by omega))<|zm R R<|zn<|?_
 exact Ak (k+1) (⟨by omega,by rw [←X7 hx0 c37];exact hgo⟩) (by omega) (fz ⟨sr,sr,sr,sr,sr,trivial⟩) (gz ⟨D5 rfl (Tm hx0),trivial⟩)
 have hk0b:k=ws.length:=by omega
 have hz:I3 l 0 ws=0:=by rw [←hgo,hk0b,List.drop_length];rfl
 have ht:ws.take k=ws:=by rw [hk0b,List.take_length]
 refine An<|zr<|zp (Aw R (by conv=>lhs;whnf))<|?_
 refine zp (As R (by conv=>lhs;whnf))<|?_
 refine za R R<|zn<|zt<|Bf (i:=21) R<|?_
 exact Bl R (RV.tmp R R) (RV.tmp R R) (r2 (rSl (by rw [ht];exact (Vg c17 hz).1)) (rI (Vg c17 hz).2))
abbrev Ku (l:List Tp) (i:Nat):List Tp:=(l.take l.length).drop (i+1)
def Fz (l:List Tp):Nat→List Int→Int→Option Int
 |_, [],acc=>some acc
 |i,w::r,acc=>if Eh l i w≠0 then none else Fz l (i+1) r (acc+Eg l i w)
def Gd (t:Tp) (ws:List Int):List Int:=(ws.drop t.first.toNat).take t.count.toNat
def R6 (a s:Int):Option Int:=((List.range 10).find? fun j=>decide (s=a*(3870720 / 2 ^ j))).map fun j=>(j:Int) - 1
def Fq (l:List Tp) (t:Tp) (ws:List Int):Option Int:=(Fz l t.first.toNat (Gd t ws) 0).bind (R6 t.actual)
def P8 (l:List Tp) (i:Nat) (ws:List Int):Option Int:=(l[i]?).bind fun t=>Fq (Ku l i) t ws
theorem Kz {l:List Tp} {i:Nat} {t:Tp} (h:l[i]? =some t) (ws:List Int):P8 l i ws=Fq (Ku l i) t ws:=by rw [P8,h];rfl
theorem W4 {t:Tp} {ws:List Int} {j:Nat} (hj:j<t.count.toNat):(Gd t ws)[j]? =ws[t.first.toNat+j]? :=by
 rw [Gd,List.getElem?_take,if_pos hj,List.getElem?_drop]
theorem Vf {l:List Tp} {i k:Nat} {seg:List Int} {w acc:Int} (h:seg[k]? =some w) (hx:¬Eh l i w≠0):Fz l i (seg.drop k) acc=Fz l (i+1) (seg.drop (k+1)) (acc+Eg l i w):=by rw [C0 h,Fz,if_neg hx]
theorem Ve {l:List Tp} {i k:Nat} {seg:List Int} {w acc:Int} (h:seg[k]? =some w) (hx:Eh l i w≠0):Fz l i (seg.drop k) acc=none:=by rw [C0 h,Fz,if_pos hx]
theorem X1 {l:List Tp} {i k:Nat} {seg:List Int} {acc:Int} (h:seg.length≤k):Fz l i (seg.drop k) acc=some acc:=by rw [List.drop_eq_nil_of_le h,Fz]
theorem Ass {p:Nat→Bool} {m k:Nat} (hk:k<m) (hp:p k=true) (h:∀j,j<k→p j=false):(List.range m).find? p=some k:=by
 rw [List.find?_range_eq_some]
 exact ⟨hp,List.mem_range.2 hk,fun j hj=>by simp [h j hj]⟩
theorem Ah9 {a s:Int} {k:Nat} (hk:k<10) (hp:s=a*(3870720 / 2 ^ k)) (h:∀j,j<k→¬s=a*(3870720 / 2 ^ j)):R6 a s=some ((k:Int) - 1):=by
 rw [R6,Ass hk (decide_eq_true hp) (fun j hj=>decide_eq_false (h j hj))];rfl
theorem Y1 {a s:Int} (h:∀j,j<10→¬s=a*(3870720 / 2 ^ j)):R6 a s=none:=by
 rw [R6,List.find?_eq_none.2 (fun j hj=>by simp [h j (List.mem_range.1 hj)])];rfl
theorem M1 {l:List Tp} {t:Tp} {ws:List Int} {s:Int} (h:Fz l t.first.toNat (Gd t ws) 0=some s):Fq l t ws=R6 t.actual s:=by rw [Fq,h];rfl
theorem Vd {l:List Tp} {t:Tp} {ws:List Int} (h:Fz l t.first.toNat (Gd t ws) 0=none):Fq l t ws=none:=by rw [Fq,h];rfl
theorem Qv {o:Option Int} (h:o=none):D.tup [dI 0,dB false]= .tup [dI (o.getD 0),dB o.isSome]:=by rw [h];rfl
theorem Aba {o:Option Int} {x:Int} (h:o=some x):D.tup [dI x,dB true]= .tup [dI (o.getD 0),dB o.isSome]:=by rw [h];rfl
theorem Atg (k:Nat):0≤(3870720:Int) / 2 ^ k∧(3870720:Int) / 2 ^ k≤3870720:=by
 have h:(0:Int)<2 ^ k:=Int.pow_pos (by omega)
 exact ⟨Int.ediv_nonneg (by omega) (by omega),Int.ediv_le_self _ (by omega)⟩
theorem Aq1 (l:List Tp) (i:Nat) (t:Tp) (ws:List Int) (ht:l[i]? =some t) (hT:Tups l ws.length):XC Tryz.prog 164 [.sl 4 (l.map Tp.c), .v (.int .i64 i), .sl 1 (B8 ws)] (fun r=>r= .tup [dI ((Fq (Ku l i) t ws).getD 0),dB (Fq (Ku l i) t ws).isSome]):=by
 have hin:=hT.inR t (List.mem_of_getElem? ht)
 have hok:=hT.ok t (List.mem_of_getElem? ht)
 have hbd:=hT.bd
 have hlen:=hT.len
 have hil:=(List.getElem?_eq_some_iff.1 ht).1
 have hin2:=hin
 simp only [Tp.inR] at hin2
 have hte:t.e=t.first+t.count:=rfl
 obtain ⟨f,hf⟩:∃f:Nat,t.first=f:=⟨t.first.toNat,by omega⟩
 have hf2:t.first.toNat=f:=by omega
 have hsl:(Gd t ws).length=t.count.toNat:=by rw [Gd,List.length_take,List.length_drop];omega
 have hoks:∀x∈(l.take l.length).drop (i+1),x.ok:=Ah6 (W9 hT.ok _) _
 have hhs:∀e,hits ((l.take l.length).drop (i+1)) e≤3:=fun e=>Nat.le_trans (Y6 _ _ e) (Nat.le_trans (O2 _ _ e) (hT.hits e))
 refine Ao Ac4 Tryz.func164 R R lb<|zr<|za R R<|za R R<|znr<|zm R R<|zm R R<|zp (Am R R R D4 (ht))<|zp (Ae (s':= .d (.agg (Tp.c t))) (Av R R Cb lb) (by kernel_rfl))<|XL.step R (A4 8 (l:= [.d (dI 0), .d (dI 0), .d (dI 0), .d (dI 0)]) R C9 (by kernel_rfl))<|?_
 refine XL.step R (Ag (l':= [.d (dI t.first), .d (dI t.count), .d (dI t.actual), .d (dI t.normal)]) R R R R Ef R lb (by kernel_rfl))<|znr<|za R R<|zn<|zs<|zr<|zp (Aa R R By)<|zp (Ab R R Ai R R)<|za R R<|zn<|Ah<|?_
 refine Ax (α:=Nat × Int) (fun p=>p.1≤t.count.toNat∧Fz ((l.take l.length).drop (i+1)) (f+p.1) ((Gd t ws).drop p.1) p.2=Fz ((l.take l.length).drop (i+1)) f (Gd t ws) 0∧0≤p.2∧p.2≤(p.1:Int)*253671505920) (fun p=>mkF [(0, .d (.sl 4 (l.map Tp.c))),(1, .d (dI i)),(2, .d (.sl 1 (B8 ws))),(8, .ptr 8 0 0),(9, .d (dI p.2)),(10, .d (dI ((f+p.1:Nat):Int)))]) (fun p=>mkH [(8, .box ((Tp.c t).map S.d))]) (fun p=>t.count.toNat - p.1) ((0,0)) (⟨Nat.zero_le _,by rw [List.drop_zero];rfl,Int.le_refl _,by simp⟩) ?_ ?_ ?_
 exact fz ⟨sr,sr,sr,sr,sr, .same (sI (by rw [hf];rfl)),trivial⟩
 exact gz ⟨R,trivial⟩
 intro p hk0
 obtain ⟨hk,hgo,hs0,hs1⟩:=hk0
 refine zs<|zr<|zm R R<|zp (Ae (s':= .d (.agg (Tp.c t))) (Ac (Ad R R Cb R lb)) (by kernel_rfl))<|XL.call1 R R (Il _ (by assumption)) R<|zp (Ar R R R)<|zn<|?_
 refine zd R (fun c23=> ?_) (fun c23=> ?_)
 have hkc:p.1<t.count.toNat:=by omega
 obtain ⟨w,hw⟩:∃w,ws[f+p.1]? =some w:=At (by omega)
 have hsw:(Gd t ws)[p.1]? =some w:=by rw [W4 hkc,hf2];exact hw
 have hh:=hhs ((f+p.1:Nat):Int)
 have hsb:=Ub (n:=((f+p.1:Nat):Int)) (w:=w) hoks hh
 refine zi<|zs<|Ah<|zs<|Bk [] (by kernel_rfl) (by kernel_rfl) (by kernel_rfl) (by decide)<|ym R R<|ym R R<|yp (Aj R R R (by omega) (by omega))<|yp (En R R D4 (Bd.ati (a:=i+1) R (by omega)) Bd.no (by omega) (by omega))<|ym R R<|ym R R<|ym R R<|yp (Am R R R C4 (hw))<|yp (A0 R R Ai)<|?_
 refine ChK.cons R (CStep.call R (Aan _ _ _ (by assumption) (by assumption) (by omega) (by omega)) R)<|ym R R<|yp (Bc R R R)<|yp (Bc R R R)<|ya R R<|ya R R<|?_
 refine ChK.nil ⟨by kernel_rfl, ?_⟩
 refine zs<|zr<|zm R R<|zp (Bg R R R)<|zn<|?_
 refine zd R (fun c40=> ?_) (fun c40=> ?_)
 refine zr<|za R R<|za R R<|zn<|zt<|?_
 exact Bl R (RV.tmp R R) (RV.tmp R R) (Qv (Vd (by rw [hf2, ←hgo];exact Ve hsw c40)))
 refine zi<|Af (by kernel_rfl)<|zm R R<|zm R R<|zp (Aj R R R (by omega) (by omega))<|za R R<|zn<|Af (by kernel_rfl)<|zm R R<|zp (Aj R R R (by omega) (by omega))<|za R R<|zn<|?_
 exact Ak ((p.1+1,p.2+Eg ((l.take l.length).drop (i+1)) ((f+p.1:Nat):Int) w)) (⟨by simp only;omega,(Vf hsw c40).symm.trans hgo,by simp only;omega,by simp only;omega⟩) (by simp only;omega) (fz ⟨sr,sr,sr,sr,sr,sr,trivial⟩) (gz ⟨rfl,trivial⟩)
 have hu:Fz ((l.take l.length).drop (i+1)) t.first.toNat (Gd t ws) 0=some p.2:=by rw [hf2, ←hgo];exact X1 (by omega)
 refine An<|zs<|zr<|za R R<|zn<|Ah<|?_
 refine Ax (α:=Nat) (fun k=>k≤10∧∀j,j<k→¬p.2=t.actual*(3870720 / 2 ^ j)) (fun k=>mkF [(8, .ptr 8 0 0),(9, .d (dI p.2)),(13, .d (dI ((k:Int) - 1)))]) (fun k=>mkH [(8, .box ((Tp.c t).map S.d))]) (fun k=>10 - k) (0) (⟨Nat.zero_le _,fun j hj=>absurd hj (Nat.not_lt_zero _)⟩) ?_ ?_ ?_
 exact fz ⟨sr,sr,sr,trivial⟩
 exact gz ⟨R,trivial⟩
 intro k hk2
 obtain ⟨hk,hno⟩:=hk2
 have hkk:((k:Int) - 1+1).toNat=k:=by omega
 have hsh:=Atg k
 refine zs<|zr<|zm R R<|zp (Ft R R R)<|zn<|?_
 refine zd R (fun c45=> ?_) (fun c45=> ?_)
 have hml1:0≤t.actual*(3870720 / 2 ^ k):=Int.mul_nonneg (by omega) hsh.1
 have hml2:t.actual*(3870720 / 2 ^ k)≤32*3870720:=Int.mul_le_mul (by omega) hsh.2 hsh.1 (by omega)
 refine zi<|zs<|Ah<|zs<|Bk [] (by kernel_rfl) (by kernel_rfl) (by kernel_rfl) (by decide)<|ym R R<|yp (Aa R R Mr)<|yp (Ab R R Ai R R)<|ym R R<|yp (Aj R R R (by omega) (by omega))<|yp (Zv R R R (by omega) (by omega))<|yp (Hv R R R (by rw [hkk];omega) (by rw [hkk];omega))<|yp (A1 R R R)<|?_
 refine ChK.nil ⟨by kernel_rfl, ?_⟩
 refine zd R (fun c55=> ?_) (fun c55=> ?_)
 refine zr<|zm R R<|za R R<|za R R<|zn<|zt<|?_
 exact Bl R (RV.tmp R R) (RV.tmp R R) (Aba (by rw [M1 hu];exact Ah9 (by omega) (by rw [hkk] at c55;exact c55) hno))
 refine zi<|Af (by kernel_rfl)<|zm R R<|zp (Aj R R R (by omega) (by omega))<|za R R<|zn<|?_
 exact Ak (k+1) (⟨by omega,fun j hj=>by by_cases e:j=k;(· subst e;rw [hkk] at c55;exact c55);(· exact hno j (by omega))⟩) (by omega) (fz ⟨sr,sr, .same (sI (by omega)),trivial⟩) (gz ⟨rfl,trivial⟩)
 have hke:k=10:=by omega
 have hnone:R6 t.actual p.2=none:=Y1 (fun j hj=>hno j (by omega))
 refine An<|zr<|za R R<|za R R<|zn<|zt<|?_
 exact Bl R (RV.tmp R R) (RV.tmp R R) (Qv (by rw [M1 hu];exact hnone))
theorem Iu {l:List Tp} {ws:List Int} (h:¬Cz l ws≠0):Tups l ws.length:=by
 unfold Cz at h
 split at h
 ·rename_i h2;exact absurd h2 h
 ·rename_i h2;exact Sp h2
def Jj (l:List Tp) (ws:List Int):Prop:=∀j,j<l.length→(P8 l j ws).isSome=true
instance (l:List Tp) (ws:List Int):Decidable (Jj l ws):=by unfold Jj;exact inferInstance
def F0 (l:List Tp) (ws:List Int):Int:=if Cz l ws≠0 then Cz l ws else if Jj l ws then 0 else 21
def Oh (l:List Tp) (ws:List Int) (k:Nat):List Int:=(List.range k).map fun j=>(P8 l j ws).getD 0
def Np (l:List Tp) (ws:List Int):List Int:=if F0 l ws=0 then Oh l ws l.length else []
theorem Ai2 {l:List Tp} {ws:List Int} {k:Nat} {t:Tp} (h:l[k]? =some t):Oh l ws (k+1)=Oh l ws k++ [(Fq (Ku l k) t ws).getD 0]:=by
 rw [Oh,List.range_succ,List.map_append,List.map_singleton,Kz h];rfl
theorem Ak4 (l:List Tp) (ws:List Int) (k:Nat):(Oh l ws k).length=k:=by rw [Oh,List.length_map,List.length_range]
theorem As7 {l:List Tp} {ws:List Int} (h:Cz l ws≠0): []=Np l ws∧Cz l ws=F0 l ws:=by
 have e:F0 l ws=Cz l ws:=by rw [F0,if_pos h]
 exact ⟨by rw [Np,e,if_neg h],e.symm⟩
theorem Ai5 {l:List Tp} {ws:List Int} (h:¬Cz l ws≠0) {k:Nat} {t:Tp} (ht:l[k]? =some t) (hn:(!(Fq (Ku l k) t ws).isSome)=true): []=Np l ws∧21=F0 l ws:=by
 have e:F0 l ws=21:=by
  rw [F0,if_neg h,if_neg fun ha=> ?_]
  have:=ha k (List.getElem?_eq_some_iff.1 ht).1
  rw [Kz ht] at this
  rw [this] at hn
  cases hn
 exact ⟨by rw [Np,e,if_neg (by decide)],e.symm⟩
theorem Ai4 {l:List Tp} {ws:List Int} (h:¬Cz l ws≠0) (ha:Jj l ws):Oh l ws l.length=Np l ws∧0=F0 l ws:=by
 have e:F0 l ws=0:=by rw [F0,if_neg h,if_pos ha]
 exact ⟨by rw [Np,e,if_pos rfl],e.symm⟩
theorem Ano (l:List Tp) (ws:List Int):XC Tryz.prog 134 [.sl 4 (l.map Tp.c), .sl 1 (B8 ws)] (fun r=>r= .tup [.sl 1 (B8 (Np l ws)),dI (F0 l ws)]):=by
 refine Ao Ady Tryz.func134 R R lb<|zr<|za R R<|za R R<|zn<|zs<|zr<|zm R R<|zm R R<|XL.call1 R R (Tg _ _) R<|zm R R<|zp (Bc R R R)<|zp (Bc R R R)<|za R R<|?_
 refine za R R<|znr<|zm R R<|zp (Bg R R R)<|zn<|?_
 refine zd R (fun c19=> ?_) (fun c19=> ?_)
 refine zr<|zm R R<|za R R<|za R R<|zn<|zt<|?_
 exact Bl R (RV.nil (sz:=1) R R) (RV.tmp R R) (r2 (rSl (As7 c19).1) (rI (As7 c19).2))
 refine zi<|zs<|?_
 have hT:=Iu c19
 have hbd:=hT.bd
 have hlen:=hT.len
 refine Af (by kernel_rfl)<|zm R R<|XL.len R R R Tryz.underlying23 fun hl22=>XL.step R (Px 23 (m:=0) (z:=(.int .i64 0)) (zs:= [dI 0]) (sz:=1) (bytes:=8) R R R Tryz.underlying64 (by kernel_rfl) (by kernel_rfl) (by kernel_rfl) (by decide) (by decide) (by omega) (by unfold maxLen;omega) (by omega))<|zp (As R (by conv=>lhs;whnf))<|?_
 refine zn<|zs<|zr<|zm R R<|XL.len R R R Tryz.underlying23 fun hl25=>zm R R<|zn<|Ah<|?_
 refine Ax (α:=Nat) (fun k=>k≤l.length∧∀j,j<k→(P8 l j ws).isSome=true) (fun k=>mkF [(0, .d (.sl 4 (l.map Tp.c))),(1, .d (.sl 1 (B8 ws))),(8, .own 23),(25, .d (dI l.length)),(26, .d (dI k))]) (fun k=>mkH [(23, .row 3 1 ((Oh l ws k).map iv))]) (fun k=>l.length - k) (0) (⟨Nat.zero_le _,fun j hj=>absurd hj (Nat.not_lt_zero _)⟩) ?_ ?_ ?_
 exact fz ⟨sr,sr,sr,sr,sr,trivial⟩
 exact gz ⟨R,trivial⟩
 intro k hk0
 obtain ⟨hk,hall⟩:=hk0
 refine zr<|zp (Ar R R R)<|zn<|zs<|?_
 refine zd R (fun c27=> ?_) (fun c27=> ?_)
 have hk0a:k<l.length:=by omega
 obtain ⟨x0,hx0⟩:=At hk0a
 have hll:=Ak4 l ws k
 refine zi<|zs<|Ah<|zr<|zm R R<|za R R<|znr<|zm R R<|zm R R<|zm R R<|XL.call1 R R (Aq1 _ _ _ _ hx0 hT) R<|zm R R<|zp (Bc R R R)<|zp (Bc R R R)<|?_
 refine za R R<|za R R<|zn<|zs<|zr<|zm R R<|zp (Dd R R)<|zn<|?_
 refine Dv (by kernel_rfl) R (fun c37=> ?_) (fun c37=> ?_)
 refine zr<|za R R<|za R R<|zn<|zt<|?_
 exact Bl R (RV.nil (sz:=1) R R) (RV.tmp R R) (r2 (rSl (Ai5 c19 hx0 c37).1) (rI (Ai5 c19 hx0 c37).2))
 refine zi<|Af (by kernel_rfl)<|zp (Aw R (by conv=>lhs;whnf))<|?_
 refine zm R R<|XL.step R (Bj 40 R Tryz.underlying64 Dc E2 R R (by omega) (by omega))<|XL.step R (A3 R Hr (.own R) (Src.own R) (by unfold maxLen;simp;omega) (by simp;omega))<|zp (As R (by conv=>lhs;whnf))<|?_
 refine zn<|Af (by kernel_rfl)<|zp (Aj R R R (by omega) (by omega))<|zm R R<|zn<|?_
 exact Ak (k+1) (⟨by omega,fun j hj=>by by_cases e:j=k;(· subst e;rw [Kz hx0];exact (by simpa using c37));(· exact hall j (by omega))⟩) (by omega) (fz ⟨sr,sr,sr,sr,sr,trivial⟩) (gz ⟨D5 rfl (Ai2 hx0),trivial⟩)
 have hk0b:k=l.length:=by omega
 have ha:Jj l ws:=fun j hj=>hall j (by omega)
 refine An<|zr<|zp (Aw R (by conv=>lhs;whnf))<|?_
 refine zp (As R (by conv=>lhs;whnf))<|?_
 refine za R R<|zn<|zt<|Bf (i:=23) R<|?_
 exact Bl R (RV.tmp R R) (RV.tmp R R) (r2 (rSl (by rw [hk0b];exact (Ai4 c19 ha).1)) (rI (Ai4 c19 ha).2))
def Gz (l:List Tp) (n:Int):Int:=if Eq l 128≠0 then 0 else (hits l n:Int)
theorem Uw {l:List Tp} {k:Nat} {t:Tp} {n:Int} (h:l[k]? =some t) (ht:t.has n):hits (l.take (k+1)) n=hits (l.take k) n+1:=by rw [Bo h,Iw,if_pos ht]
theorem Xk {l:List Tp} {k:Nat} {t:Tp} {n:Int} (h:l[k]? =some t) (ht:¬t.has n):hits (l.take (k+1)) n=hits (l.take k) n:=by rw [Bo h,Iw,if_neg ht];rfl
theorem Ab8 (l:List Tp) (n:Int) (h0:0≤n) (h1:n≤128):XC Tryz.prog 94 [.sl 4 (l.map Tp.c), .v (.int .i64 n)] (fun r=>r=dI (Gz l n)):=by
 refine Ao Afq Tryz.func94 R R lb<|zr<|za R R<|zn<|zs<|zr<|zm R R<|XL.call1 R R (X3 _ _) R<|zp (Bg R R R)<|zn<|?_
 refine zd R (fun c10=> ?_) (fun c10=> ?_)
 exact zr<|za R R<|zn<|zt<|z1 R R (rI (by rw [Gz,if_pos c10]))
 refine zi<|zs<|?_
 have hT:=Sp c10
 refine Af (by kernel_rfl)<|za R R<|zn<|zs<|zr<|zm R R<|XL.len R R R Tryz.underlying23 fun hl12=>zm R R<|zn<|Ah<|?_
 refine Ax (α:=Nat) (fun k=>k≤l.length) (fun k=>mkF [(1, .d (dI n)),(4, .d (dI 0)),(5, .d (dI (hits (l.take k) n:Int))),(11, .d (.sl 4 (l.map Tp.c))),(12, .d (dI l.length)),(13, .d (dI k))]) (fun k=>mkH []) (fun k=>l.length - k) (0) (Nat.zero_le _) ?_ ?_ ?_
 exact fz ⟨sr,sr,sr,sr,sr,sr,trivial⟩
 exact HSub.nil
 intro k hk0
 refine zr<|zp (Ar R R R)<|zn<|zs<|?_
 refine zd R (fun c14=> ?_) (fun c14=> ?_)
 have hk0a:k<l.length:=by omega
 obtain ⟨x0,hx0⟩:=At hk0a
 have hok:=hT.ok x0 (List.mem_of_getElem? hx0)
 have hle:=Nat.le_trans (O2 l k n) (hT.hits n)
 refine zi<|zs<|Ah<|zr<|zp (Am R R R D4 hx0)<|zp (Ae (s':= .d (.agg (Tp.c x0))) (Av R R Cb lb) (by kernel_rfl))<|XL.step R (A4 7 (l:= [.d (dI 0), .d (dI 0), .d (dI 0), .d (dI 0)]) R C9 (by kernel_rfl))<|XL.step R (Ag (l':= [.d (dI x0.first), .d (dI x0.count), .d (dI x0.actual), .d (dI x0.normal)]) R R R R Ef R lb (by kernel_rfl))<|znr<|?_
 refine zp (Ae (s':= .d (.agg (Tp.c x0))) (Ac (Ad R R Cb R lb)) (by kernel_rfl))<|zm R R<|XL.call1 R R (Ts _ _ (by assumption) (by omega) (by omega)) R<|zn<|?_
 refine zd R (fun c19=> ?_) (fun c19=> ?_)
 refine Af (by kernel_rfl)<|zm R R<|zp (Aj R R R (by omega) (by omega))<|za R R<|zn<|Af (by kernel_rfl)<|zp (Aj R R R (by omega) (by omega))<|zm R R<|zn<|?_
 exact Ak (k+1) (by omega) (by omega) (fz ⟨sr,sr, .same (sI (by rw [Uw hx0 c19];rfl)),sr,sr,sr,trivial⟩) (HSub.nil)
 refine zi<|Af (by kernel_rfl)<|zp (Aj R R R (by omega) (by omega))<|zm R R<|zn<|?_
 exact Ak (k+1) (by omega) (by omega) (fz ⟨sr,sr, .same (sI (by rw [Xk hx0 c19])),sr,sr,sr,trivial⟩) (HSub.nil)
 have hk0b:k=l.length:=by omega
 have ht:l.take k=l:=by rw [hk0b,List.take_length]
 exact An<|zr<|zm R R<|za R R<|zn<|zt<|z1 R R (rI (by rw [Gz,if_neg c10,ht]))
end Go.Proofs.YtcihalbakenleaaGreat
namespace Go.Proofs.YtcihalbakenleaaGreat
open Go.RowKit
def Wt (ops:Array Oper) (j i:Nat):Bool:=match ops[j]? with
 |some o=>o.after.toList.any fun e=>Region.binds .any e && Nat.beq e.on i
 |none=>false
def Akr (ops:Array Oper):Bool:=(List.range ops.size).all fun j=>match ops[j]? with
 |some o=>o.after.toList.all fun e=> !Region.binds .any e||Nat.blt e.on j
 |none=>true
def T7 (ops:Array Oper) (p:Nat):Bool:=
 Akr ops && ((List.range p).all fun k=>(List.range (p+1)).any fun k'=>Nat.blt k k' && Wt ops k' k) && ((List.range ops.size).all fun j=> !Nat.blt p j||Wt ops j (j - 1))
theorem Rb {ops:Array Oper} {j i:Nat} (h:Wt ops j i=true):∃o e,ops[j]? =some o∧e∈o.after∧Region.binds .any e=true∧e.on=i:=by
 unfold Wt at h
 cases ho:ops[j]? with
 |none=>rw [ho] at h;cases h
 |some o=>
  rw [ho] at h
  simp only [List.any_eq_true,Bool.and_eq_true] at h
  obtain ⟨e,he,hb,h2⟩:=h
  exact ⟨o,e,rfl,by simpa using he,hb,Nat.eq_of_beq_eq_true h2⟩
theorem Wv {ops:Array Oper} (h:Akr ops=true) {j:Nat} {o:Oper} (ho:ops[j]? =some o) {e:Edge} (he:e∈o.after) (hb:Region.binds .any e=true):e.on<j:=by
 unfold Akr at h
 have hj:j<ops.size:=(Array.getElem?_eq_some_iff.1 ho).1
 have h1:=List.all_eq_true.1 h j (List.mem_range.2 hj)
 rw [ho] at h1
 have h2:=List.all_eq_true.1 h1 e (by simpa using he)
 rw [hb] at h2
 exact Ha (by simpa using h2)
theorem Ri {P:Program} {ops:Array Oper} {Q:Exit→Act→World→Prop} {id:Nat} {a:Act} {w:World} {I:Array Bool→Act→World→Prop} (p:Nat) (suf:List Oper) (hm:P.follows .mixedOrders=true)
  (hops:∀j,suf[j]? =ops[p+j]?) (hsz:ops.size=p+suf.length) (hne:0<suf.length) (hS:T7 ops p=true) (h0:I (Array.replicate ops.size false) a w.drew)
  (hinv:∀listed a w,I listed a w→listed.size=ops.size∧(∀j o e,ops[j]? =some o→listed.getD j false=true→e∈o.after→Region.binds .any e=true→listed.getD e.on false=true)∧∀k,p≤k→listed.getD k false=false)
  (hstep:∀listed a w,I listed a w→∀i∈Region.ready .any ops listed,i<p→wpOp P ops Q i (fun a' w'=>I (listed.setIfInBounds i true) a' w') a w)
  (hdone:∀listed a w,I listed a w→(∀k,k<p→listed.getD k false=true)→wpList P ops Q suf a w):(Code.region id ops true).wp P Q a w:=by
 unfold T7 at hS
 rw [Bool.and_eq_true,Bool.and_eq_true] at hS
 obtain ⟨⟨hback,hpre⟩,hchain⟩:=hS
 have hch:∀j,p<j→j<ops.size→Wt ops j (j - 1)=true:=by
  intro j h1 h2
  have h3:=List.all_eq_true.1 hchain j (List.mem_range.2 h2)
  have h4:Nat.blt p j=true:=by rw [Nat.blt_eq];exact h1
  rw [h4] at h3
  simpa using h3
 have hall:∀listed a w,I listed a w→p∈Region.ready .any ops listed→∀k,k<p→listed.getD k false=true:=by
  intro listed a w hI hp k hk
  obtain ⟨_,hdown,_⟩:=hinv _ _ _ hI
  obtain ⟨_,_,o,ho,hdeps⟩:=Hj hp
  have key:∀d k,k<p→p - k≤d→listed.getD k false=true:=by
   intro d
   induction d with
   |zero=>intro k h1 h2;omega
   |succ d ih=>
    intro k h1 h2
    have h3:=List.all_eq_true.1 hpre k (List.mem_range.2 h1)
    simp only [List.any_eq_true,Bool.and_eq_true,List.mem_range] at h3
    obtain ⟨k',h4,h5,h6⟩:=h3
    have h5:=Ha h5
    obtain ⟨o',e,g1,g2,g3,g4⟩:=Rb h6
    by_cases e':k'=p
    ·subst e'
     rw [ho] at g1;cases g1
     rw [←g4];exact hdeps e g2 g3
    ·rw [←g4]
     exact hdown k' o' e g1 (ih k' (by omega) (by omega)) g2 g3
  exact key (p - k) k hk (Nat.le_refl _)
 let J:Array Bool→Act→World→Prop:=fun listed a w=>I listed a w∨∃m,m≤suf.length∧listed.size=ops.size∧(∀k,k<ops.size→(listed.getD k false=true↔k<p+m))∧wpList P ops Q (suf.drop m) a w
 have hone:∀(listed:Array Bool) (a:Act) (w:World) (m:Nat),m<suf.length→listed.size=ops.size→(∀k,k<ops.size→(listed.getD k false=true↔k<p+m))→wpList P ops Q (suf.drop m) a w→
   wpOp P ops Q (p+m) (fun a' w'=>J (listed.setIfInBounds (p+m) true) a' w') a w:=by
  intro listed a w m hm' hl hk hw
  have ho:suf[m]? =some suf[m]:=List.getElem?_eq_getElem hm'
  have hd:suf.drop m=suf[m]::suf.drop (m+1):=List.drop_eq_getElem_cons hm'
  rw [hd] at hw
  unfold wpOp
  rw [←hops m,ho]
  simp only
  unfold wpList at hw
  have hJ:∀a' w',wpList P ops Q (suf.drop (m+1)) a' w'→J (listed.setIfInBounds (p+m) true) a' w':=by
   intro a' w' h
   refine .inr ⟨m+1,hm',by simpa using hl,fun k hk'=> ?_,h⟩
   by_cases e:k=p+m
   ·subst e
    simp [Array.getD_eq_getD_getElem?,show p+m<listed.size by omega]
   ·rw [show (listed.setIfInBounds (p+m) true).getD k false=listed.getD k false from by simp [Array.getD_eq_getD_getElem?,Array.getElem?_setIfInBounds_ne (fun h=>e h.symm)]]
    rw [hk k hk']
    omega
  split at hw
  ·rename_i hwant
   rw [if_pos hwant]
   rcases hw with h|h
   ·exact .inl (Oper.wp_mono hJ h)
   ·exact .inr h
  ·rename_i hwant
   rw [if_neg hwant]
   exact hJ _ _ hw
 refine Rj (I:=J) hm (.inl h0) ?_ ?_
 ·rintro listed a w (hI|⟨m,hm',hl,hk,hw⟩) i hi
  ·obtain ⟨hl,hdown,hun⟩:=hinv _ _ _ hI
   obtain ⟨h1,h2,o,ho,hdeps⟩:=Hj hi
   by_cases hip:i<p
   ·exact wpOp_mono (fun _ _ h=> .inl h) (hstep _ _ _ hI i hi hip)
   ·by_cases e:i=p
    ·subst e
     have ha:=hall _ _ _ hI hi
     have := hone listed a w 0 hne hl (fun k hk => by
      by_cases hkp:k<i
      ·simp [ha k hkp,hkp]
      ·simp [hun k (by omega), hkp]) (by rw [List.drop_zero]; exact hdone _ _ _ hI ha)
     rwa [Nat.add_zero] at this
    ·exfalso
     obtain ⟨o',e',g1,g2,g3,g4⟩:=Rb (hch i (by omega) h1)
     rw [ho] at g1;cases g1
     have:=hdeps e' g2 g3
     rw [g4,hun (i - 1) (by omega)] at this
     cases this
  ·obtain ⟨h1,h2,o,ho,hdeps⟩:=Hj hi
   have h2':listed.getD i false=false:=by rw [←J8 true (by omega)];exact h2
   have hge:¬i<p+m:=fun h=>by have:=(hk i h1).2 h;rw [h2'] at this;cases this
   have hi':i=p+m:=by
    by_cases e:i=p+m
    ·exact e
    ·exfalso
     obtain ⟨o',e',g1,g2,g3,g4⟩:=Rb (hch i (by omega) h1)
     rw [ho] at g1;cases g1
     have:=hdeps e' g2 g3
     rw [g4] at this
     have:=(hk (i - 1) (by omega)).1 this
     omega
   subst hi'
   exact hone listed a w m (by omega) hl hk hw
 ·rintro listed a w (hI|⟨m,hm',hl,hk,hw⟩) hr
  ·exfalso
   obtain ⟨hl,hdown,hun⟩:=hinv _ _ _ hI
   have key:∀k,k≤p→listed.getD k false=true:=by
    intro k
    induction k using Nat.strongRecOn with
    |_ k ih=>
     intro hkp
     cases hlk:listed.getD k false with
     |true=>rfl
     |false=>
      exfalso
      have hks:k<ops.size:=by omega
      have ho:ops[k]? =some ops[k]:=Array.getElem?_eq_getElem hks
      have : k ∈ Region.ready .any ops listed := mem_ready.2 ⟨by rw [J8 true (by omega)]; exact hlk, ops[k], ho, fun e he hb => by
       have hlt:=Wv hback ho he hb
       exact ih e.on hlt (by omega)⟩
      rw [hr] at this;cases this
   have:=key p (Nat.le_refl _)
   rw [hun p (Nat.le_refl _)] at this
   cases this
  ·by_cases e:m=suf.length
   ·subst e
    rw [List.drop_length] at hw
    exact hw
   ·exfalso
    have hks:p+m<ops.size:=by omega
    have ho:ops[p+m]? =some ops[p+m]:=Array.getElem?_eq_getElem hks
    have hun:listed.getD (p+m) false=false:=by
     cases h:listed.getD (p+m) false with
     |false=>rfl
     |true=>have:=(hk _ hks).1 h;omega
    have : p + m ∈ Region.ready .any ops listed := mem_ready.2 ⟨by rw [J8 true (by omega)]; exact hun, ops[p + m], ho, fun e he hb => by
     have hlt:=Wv hback ho he hb
     exact (hk e.on (by omega)).2 hlt⟩
    rw [hr] at this;cases this
theorem Anj {P:Program} {n id:Nat} {pre suf:List Oper} {ops:Array Oper} {K:Ee} {f f':Fr} {h h':Xh} {L:List (List Nat × S)} (sites:List Nat) (hopsE:ops=(pre++suf).toArray) (hne:0<suf.length) (hm:P.follows .mixedOrders=true) (hin:pre.all (inN n)=true) (hin2:suf.all (inN n)=true)
  (hreg:Mv ops pre=true) (hS:T7 ops pre.length=true)
  (hc:Ch P n ops pre (Fn f sites) (F5 h sites) L f' h') (hids:L.flatMap (·.1)=sites) (hnd:sites.Nodup) (hk:XL P n ops suf K f' h'):XW P n (.region id ops true) K f h:=by
 have hops:∀j,j<pre.length→ops[j]? =pre[j]? :=fun j hj=>by rw [hopsE];simp [List.getElem?_append_left hj]
 have hops2:∀j,suf[j]? =ops[pre.length+j]? :=fun j=>by rw [hopsE,List.getElem?_toArray,List.getElem?_append_right (by omega),Nat.add_sub_cancel_left]
 have hsize:ops.size=pre.length+suf.length:=by rw [hopsE];simp
 intro E H β a w hs hf
 obtain ⟨hs1,hf1⟩:=N9 sites β f h hs hf
 obtain ⟨hok,hfin⟩:=hc.ok
 obtain ⟨hle,hnew⟩:=hc.heap
 have hlen:=hc.len
 generalize hf0:Fn f sites=f0 at*
 have huniq:∀(k k':Nat) (ids ids':List Nat) (s s':S) (i:Nat),L[k]? =some (ids,s)→L[k']? =some (ids',s')→i∈ids→i∈ids'→k=k':=by
  rw [←hids] at hnd
  clear hids hnew hc hok hfin hlen
  induction L with
  |nil=>intro k k' ids ids' s s' i h1;simp at h1
  |cons q L ih=>
   rw [List.flatMap_cons,List.nodup_append] at hnd
   intro k k' ids ids' s s' i h1 h2 h3 h4
   cases k with
   |zero=>
    cases k' with
    |zero=>rfl
    |succ k'=>
     simp at h1 h2
     subst h1
     exact absurd rfl (hnd.2.2 i h3 i (List.mem_flatMap.2 ⟨_,List.mem_of_getElem? h2,h4⟩))
   |succ k=>
    cases k' with
    |zero=>
     simp at h1 h2
     subst h2
     exact absurd rfl (hnd.2.2 i h4 i (List.mem_flatMap.2 ⟨_,List.mem_of_getElem? h1,h3⟩))
    |succ k'=>exact congrArg (· +1) (ih hnd.2.1 k k' ids ids' s s' i (by simpa using h1) (by simpa using h2) h3 h4)
 have hs2:Sim E H (G0 β sites) h' w:=by
  have emp:∀i x L0,h' i=some x→G0 β sites i=some L0→F5 h sites i=some x:=fun i x L0 e1 e2=>by
   rcases hnew i x e1 with e|e
   ·exact e
   ·rw [hids] at e
    rw [Hi sites β i e.1] at e2;cases e2
  exact ⟨hs1.below, hs1.ext, hs1.new, hs1.imm, fun i x L0 e1 e2 => hs1.obj i x L0 (emp i x L0 e1 e2) e2, fun i x L0 e1 e2 => hs1.sep i x L0 (emp i x L0 e1 e2) e2,
   fun i j x x' L1 L2 b hij e1 e1' e2 e2'=>hs1.inj i j x x' L1 L2 b hij (emp i x L1 e1 e2) (emp j x' L2 e1' e2') e2 e2',
   fun i x e1 hg=>by
    rcases hnew i x e1 with e|e
    ·exact hs1.dom i x e hg
    ·rw [e.2] at hg; cases hg⟩
 refine Ri (I := fun listed a w => (listed.size = ops.size ∧ (∀ j o e, ops[j]? = some o → listed.getD j false = true → e ∈ o.after → Region.binds .any e = true → listed.getD e.on false = true) ∧ ∀ k, pre.length ≤ k → listed.getD k false = false) ∧
   ∃ H β, Sim E H β h' w ∧ FV n H β a (B5 f0 pre L (fun j => listed.getD j false) pre.length) ∧ ∀ (k : Nat) (ids : List Nat) (s : S), L[k]? = some (ids, s) → listed.getD k false = false → ∀ i ∈ ids, β i = none) pre.length suf hm hops2 hsize hne hS ?_ (fun _ _ _ h => h.1) ?_ ?_
 ·have hrep:∀j,(Array.replicate ops.size false).getD j false=false:=fun j=>by rw [Array.getD_eq_getD_getElem?,Array.getElem?_replicate];split<;>rfl
  refine ⟨⟨by simp,fun j o e _ hj=> ?_,fun k _=>hrep k⟩,H,G0 β sites,hs2.drew, ?_,fun k ids s hk _ i hi=>Hi sites β i (by rw [←hids];exact List.mem_flatMap.2 ⟨_,List.mem_of_getElem? hk,hi⟩)⟩
  ·have:(Array.replicate ops.size false).getD j false=false:=by
    rw [Array.getD_eq_getD_getElem?,Array.getElem?_replicate];split<;>rfl
   rw [this] at hj;cases hj
  ·have e0:∀k,B5 f0 pre L (fun j=>(Array.replicate ops.size false).getD j false) k=f0:=by
    intro k
    induction k with
    |zero=>rfl
    |succ k ih=>
     have hz:(Array.replicate ops.size false).getD k false=false:=by
      rw [Array.getD_eq_getD_getElem?,Array.getElem?_replicate];split<;>rfl
     unfold B5
     cases pre[k]? with
     |none=>exact ih
     |some o=>
      cases L[k]? with
      |none=>exact ih
      |some q=>simp only [hz,cond_false];exact ih
   rw [e0]
   exact hf1
 ·rintro listed a w ⟨⟨hsz,hdown,hunp⟩,H,β,hsim,hfv,hun⟩ i hi hip
  obtain ⟨hil,hunl,o,ho,hdeps⟩:=Hj hi
  have hil':i<pre.length:=hip
  have hol:pre[i]? =some o:=by rw [←hops i hip];exact ho
  obtain ⟨⟨ids,s⟩,hLi⟩:∃q,L[i]? =some q:=⟨_,List.getElem?_eq_getElem (by omega)⟩
  have hunl':listed.getD i false=false:=by rw [←J8 true (by omega)];exact hunl
  have hdown':∀j o e,ops[j]? =some o→(fun j=>listed.getD j false) j=true→e∈o.after→Region.binds .any e=true→(fun j=>listed.getD j false) e.on=true:=fun j o e h1 h2 h3 h4=>hdown j o e (by simpa using h1) h2 h3 h4
  have hwl:∀j,I0 ops 3 i j=true→listed.getD j false=true:=by
   intro j hw
   unfold I0 at hw
   rw [ho] at hw
   simp only [List.any_eq_true,Bool.and_eq_true,Bool.or_eq_true] at hw
   obtain ⟨e,he,hb,h2⟩:=hw
   have hl:=hdeps e (by simpa using he) hb
   rcases h2 with h2|h2
   ·rw [←Nat.eq_of_beq_eq_true h2];exact hl
   ·exact Fy hdown' 2 e.on j h2 hl
  have hlo:∀t,t∈De ops o→∀j o',j<i→pre[j]? =some o'→o'.dst=some t→listed.getD j false=true:=by
   intro t ht j o' hj hj' hd
   exact hwl j (K7 hreg hj hj' hol (by unfold Pb;rw [hd];simp [K2 ht]))
  have hhi:∀t,t∈De ops o→∀j o',i<j→pre[j]? =some o'→o'.dst=some t→listed.getD j false=false:=by
   intro t ht j o' hj hj' hd
   cases hlj:listed.getD j false with
   |false=>rfl
   |true=>
    have hw:=K7 hreg hj hol hj' (by unfold Pb;rw [hd];simp [K2 ht])
    have:=Fy hdown' 3 j i hw hlj
    rw [hunl'] at this;cases this
  have hcur:∀t,t∈De ops o→B5 f0 pre L (fun j=>listed.getD j false) pre.length t=B5 f0 pre L F6 i t:=by
   intro t ht
   have h1:∀j o',i≤j→pre[j]? =some o'→o'.dst=some t→(fun j=>listed.getD j false) j=false:=by
    intro j o' hj hj' hd
    by_cases e:j=i
    ·subst e;exact hunl'
    ·exact hhi t ht j o' (by omega) hj' hd
   rw [Kb h1 pre.length (by omega),Pa (hlo t ht) i (Nat.le_refl _)]
  have hin':inN n o=true:=List.all_eq_true.1 hin o (List.mem_of_getElem? hol)
  have hoin:=hin'
  unfold inN at hoin
  rw [Bool.and_eq_true] at hoin
  have hop:∀x∈o.op.operands,VS H β (a.eval x) (ev (B5 f0 pre L F6 i) x):=by
   intro x hx
   have h1:=hfv.operands hin' x hx
   cases x with
   |tmp t=>
    have ht:t∈De ops o:=by
     unfold De Oper.looksAt
     simp only [List.mem_append,List.mem_filterMap]
     exact .inr (.inl ⟨.tmp t,by simpa using hx,rfl⟩)
    have:=hcur t ht
    simp only [ev] at h1 ⊢
    rw [←this]
    exact h1
   |_=>exact h1
  have hguard:∀b,Ct ops (B5 f0 pre L F6 i) n o.guard=some b→Region.wanted o (yielded ops a.tmps)=b:=by
   intro b hb
   refine Kf hfv ?_
   rw [←hb]
   unfold Ct
   cases hg:o.guard with
   |none=>rfl
   |some g=>
    obtain ⟨j,want⟩:=g
    simp only
    cases ht:(ops[j]?).bind (·.dst) with
    |none=>rfl
    |some t=>
     simp only
     have htn:t∈De ops o:=by
      unfold De Oper.looksAt
      rw [hg]
      simp only [List.mem_append]
      exact .inr (.inr (by rw [ht];simp))
     rw [hcur t htn]
  have hlisted':∀j,(listed.setIfInBounds i true).getD j false=if j=i then true else listed.getD j false:=by
   intro j
   by_cases e:j=i
   ·subst e
    simp [Array.getD_eq_getD_getElem?,show j<listed.size by omega]
   ·rw [if_neg e]
    simp [Array.getD_eq_getD_getElem?,Array.getElem?_setIfInBounds_ne (fun h=>e h.symm)]
  have hdown2:∀j o' e,ops[j]? =some o'→(listed.setIfInBounds i true).getD j false=true→e∈o'.after→Region.binds .any e=true→(listed.setIfInBounds i true).getD e.on false=true:=by
   intro j o' e hj hl he hb
   rw [hlisted'] at hl ⊢
   split
   ·rfl
   ·by_cases ej:j=i
    ·subst ej
     rw [ho] at hj;cases hj
     exact hdeps e he hb
    ·rw [if_neg ej] at hl
     exact hdown j o' e hj hl he hb
  have hslot:∀(H':Hp) (β':Bt) (u:Value),FV n H' β' a (B5 f0 pre L (fun j=>listed.getD j false) pre.length)→VS H' β' u s→FV n H' β' (a.put o.dst u) (B5 f0 pre L (fun j=>(listed.setIfInBounds i true).getD j false) pre.length):=by
   intro H' β' u hfv' hu
   have hp:=hfv'.put hu o.dst hoin.2
   refine ⟨hp.defers,hp.size,fun t ht=> ?_⟩
   have h1:=hp.slot t ht
   have hsame:∀j,j≠i→(fun j=>(listed.setIfInBounds i true).getD j false) j=(fun j=>listed.getD j false) j:=fun j hj=>by simp only;rw [hlisted',if_neg hj]
   by_cases hd:o.dst=some t
   ·have ht':t∈De ops o:=by unfold De;simp [hd]
    have e1:B5 f0 pre L (fun j=>(listed.setIfInBounds i true).getD j false) pre.length t=B5 f0 pre L (fun j=>(listed.setIfInBounds i true).getD j false) (i+1) t:=by
     refine Kb (fun j o' hj hj' hd'=> ?_) pre.length (by omega)
     show (listed.setIfInBounds i true).getD j false=false
     rw [hlisted',if_neg (by omega)]
     exact hhi t ht' j o' (by omega) hj' hd'
    have e2:B5 f0 pre L (fun j=>(listed.setIfInBounds i true).getD j false) (i+1) t=s:=by
     unfold B5
     rw [hol,hLi]
     have hb:(listed.setIfInBounds i true).getD i false=true:=by rw [hlisted',if_pos rfl]
     simp only [hb,cond_true,B9,hd,D1,Cc]
    have e3:B9 (B5 f0 pre L (fun j=>listed.getD j false) pre.length) o.dst s t=s:=by rw [hd];simp only [B9,D1,Cc,cond_true]
    rw [e1,e2]
    rw [e3] at h1
    exact h1
   ·have e1:=Nb (f:=f0) (L:=L) (lst:=fun j=>listed.getD j false) (t:=t) hsame (fun o' h=>by rw [hol] at h;cases h;exact hd) pre.length
    have e3:B9 (B5 f0 pre L (fun j=>listed.getD j false) pre.length) o.dst s t=B5 f0 pre L (fun j=>listed.getD j false) pre.length t:=by
     cases hdd:o.dst with
     |none=>rfl
     |some t'=>
      have:t'≠t:=fun e=>hd (by rw [hdd,e])
      simp only [B9,D1,Co this,cond_false]
    rw [e1]
    rw [e3] at h1
    exact h1
  have hun2:∀(β':Bt),(∀j,j∉ids→β' j=β j)→∀(k:Nat) (ids':List Nat) (s':S),L[k]? =some (ids',s')→(listed.setIfInBounds i true).getD k false=false→∀j∈ids',β' j=none:=by
   intro β' hβ' k ids' s' hk hl j hj
   rw [hlisted'] at hl
   by_cases e:k=i
   ·rw [if_pos e] at hl;cases hl
   ·rw [if_neg e] at hl
    rw [hβ' j (fun hc=>e (huniq k i ids' ids s' s j hk hLi hj hc))]
    exact hun k ids' s' hk hl j hj
  have hsz':(listed.setIfInBounds i true).size=ops.size:=by simpa using hsz
  have hunp2:∀k,pre.length≤k→(listed.setIfInBounds i true).getD k false=false:=fun k hk=>by rw [hlisted',if_neg (by omega)];exact hunp k hk
  unfold wpOp
  rw [ho]
  simp only
  rcases hok i o ids s hol hLi with ⟨hw,hcalm⟩|⟨hw,rfl,rfl⟩
  ·rw [if_pos (hguard _ hw)]
   refine .inl (Ik (hcalm E H β a w hsim (hun i ids s hLi hunl') hop) ?_)
   rintro a' w' ⟨H',β',u,rfl,k1,k2,k3,k4,k5⟩
   exact ⟨⟨hsz',hdown2,hunp2⟩,H',β',k1,hslot H' β' u (hfv.mono k2 k3) k5,hun2 β' k4⟩
  ·rw [if_neg (by rw [hguard _ hw];simp)]
   exact ⟨⟨hsz',hdown2,hunp2⟩,H,β,hsim,hslot H β undef hfv (.d (.v _)),hun2 β fun _ _=>rfl⟩
 ·rintro listed a w ⟨⟨hsz,hdown,hunp⟩,H,β,hsim,hfv,hun⟩ hall
  refine hk hin2 E H β a w hsim ?_
  have e:∀k,k≤pre.length→B5 f0 pre L (fun j=>listed.getD j false) k=B5 f0 pre L F6 k:=by
   intro k
   induction k with
   |zero=>intro _;rfl
   |succ k ih=>
    intro hk'
    unfold B5
    rw [ih (by omega)]
    cases pre[k]? with
    |none=>rfl
    |some o=>
     cases L[k]? with
     |none=>rfl
     |some q=>simp only [hall k (by omega),F6]
  rw [e pre.length (Nat.le_refl _),hfin] at hfv
  exact hfv
theorem Aqu {P:Program} {n id:Nat} {pre suf:List Oper} {ops:Array Oper} {K:Ee} {f:Fr} {h:Xh} (sites:List Nat) (hopsE:ops=(pre++suf).toArray) (hne:0<suf.length) (hm:P.follows .mixedOrders=true) (hin:pre.all (inN n)=true) (hin2:suf.all (inN n)=true)
  (hreg:Mv ops pre=true) (hS:T7 ops pre.length=true) (hnd:sites.Nodup)
  (hc:ChK P n ops pre (Fn f sites) (F5 h sites) [] (fun L f' h'=>L.flatMap (·.1)=sites∧XL P n ops suf K f' h')):XW P n (.region id ops true) K f h:=by
 obtain ⟨L,f',h',k1,k2,k3⟩:=hc
 exact Anj sites hopsE hne hm hin hin2 hreg hS k1 k2 hnd k3
theorem Ci {P:Program} {n id:Nat} {l:List Oper} {K:Ee} {f:Fr} {h:Xh} (p:Nat) (sites:List Nat) (hm:P.follows .mixedOrders=true) (hin:l.all (inN n)=true) (hreg:Mv l.toArray (l.take p)=true) (hS:(Nat.blt p l.length && T7 l.toArray p)=true) (hnd:sites.Nodup)
  (hc:ChK P n l.toArray (l.take p) (Fn f sites) (F5 h sites) [] (fun L f' h'=>L.flatMap (·.1)=sites∧XL P n l.toArray (l.drop p) K f' h')):XW P n (.region id l.toArray true) K f h:=by
 rw [Bool.and_eq_true] at hS
 have hp:=Ha hS.1
 rw [←List.take_append_drop p l,List.all_append,Bool.and_eq_true] at hin
 exact Aqu sites (by rw [List.take_append_drop]) (by rw [List.length_drop];omega) hm hin.1 hin.2 hreg (by rw [List.length_take,Nat.min_eq_left (by omega)];exact hS.2) hnd hc
theorem Ly {e:TypeId} {sz k:Nat} {α:Type} {g:α→List D} {l l':List α} {a:α} {ds:List D} (hd:ds=g a) (hl:l'=l.set k a):some (XO.row e sz ((l.map g).set k ds))=some (XO.row e sz (l'.map g)):=by rw [hl,hd,List.map_set]
end Go.Proofs.YtcihalbakenleaaGreat
namespace Go.Proofs.YtcihalbakenleaaGreat
open Go.RowKit
def tot (l:List Int):Int:=l.foldl (· + ·) 0
theorem Hm (l:List Int) (x:Int):tot (l++ [x])=tot l+x:=by unfold tot;rw [List.foldl_append];rfl
theorem P9 {l:List Int} {k:Nat} {x:Int} (h:l[k]? =some x):tot (l.take (k+1))=tot (l.take k)+x:=by rw [Bo h,Hm]
structure Nums (l:List Int):Prop where
 len:l.length≤128
 bd:∀x∈l,0≤x∧x≤253671505920
theorem Aq3 {l:List Int}:(∀x∈l,0≤x∧x≤253671505920)→0≤tot l∧tot l≤(l.length:Int)*253671505920:=by
 refine Lw (p:=fun l=>(∀x∈l,0≤x∧x≤253671505920)→0≤tot l∧tot l≤(l.length:Int)*253671505920) (fun _=>by simp [tot]) (fun l x ih h=> ?_) l
 have h1:=ih fun y hy=>h y (List.mem_append_left _ hy)
 have h2:=h x (List.mem_append_right _ (List.mem_singleton.2 rfl))
 rw [Hm,List.length_append,List.length_singleton,Int.natCast_add,Int.add_mul]
 omega
theorem Nums.tot {l:List Int} (h:Nums l):0≤Go.Proofs.YtcihalbakenleaaGreat.tot l∧Go.Proofs.YtcihalbakenleaaGreat.tot l≤32469952757760:=by
 have:=Aq3 h.bd
 have:=h.len
 omega
theorem Nums.take {l:List Int} (h:Nums l) (k:Nat):Nums (l.take k):=⟨Nat.le_trans (List.length_take_le' _ _) h.len,fun x hx=>h.bd x (List.mem_of_mem_take hx)⟩
def Evs (l:List Ev):Prop:=∀e∈l,e.art≤9223372036854775807
def wrS (l:List Ev):List Int:=l.map Ev.len
theorem T5 (l:List Int) (h:Nums l):XC Tryz.prog 61 [.sl 1 (B8 l)] (fun r=>r=dI (tot l)):=by
 refine Ao Agh Tryz.func61 R R lb<|zr<|za R R<|znr<|za R R<|zn<|zs<|zr<|zm R R<|XL.len R R R Tryz.underlying64 fun hl7=>zm R R<|zn<|Ah<|?_
 refine Ax (α:=Nat) (fun k=>k≤l.length) (fun k=>mkF [(2, .d (dI 0)),(3, .d (dI (tot (l.take k)))),(6, .d (.sl 1 (B8 l))),(7, .d (dI l.length)),(8, .d (dI k))]) (fun k=>mkH []) (fun k=>l.length - k) (0) (Nat.zero_le _) ?_ ?_ ?_
 exact fz ⟨sr,sr,sr,sr,sr,trivial⟩
 exact HSub.nil
 intro k hk0
 refine zr<|zp (Ar R R R)<|zn<|zs<|?_
 refine zd R (fun c9=> ?_) (fun c9=> ?_)
 have hk0a:k<l.length:=by omega
 obtain ⟨x0,hx0⟩:=At hk0a
 have h1:=(h.take k).tot
 have h2:=h.bd x0 (List.mem_of_getElem? hx0)
 refine zi<|zs<|Ah<|zr<|zp (Am R R R C4 hx0)<|zp (A0 R R Ai)<|za R R<|zng<|zm R R<|zm R R<|zp (Aj R R R (by omega) (by omega))<|za R R<|zn<|Af (by kernel_rfl)<|?_
 refine zp (Aj R R R (by omega) (by omega))<|zm R R<|zn<|?_
 exact Ak (k+1) (by omega) (by omega) (fz ⟨sr, .same (sI (by rw [P9 hx0])),sr,sr,sr,trivial⟩) (HSub.nil)
 have hk0b:k=l.length:=by omega
 have ht:l.take k=l:=by rw [hk0b,List.take_length]
 exact An<|zr<|zm R R<|za R R<|zn<|zt<|z1 R R (rI (by rw [ht]))
def Ln (l:List Int) (k:Nat):List Int:=(List.range l.length).map fun j=>if j<k then tot (l.take j) else 0
def Bh (l:List Int):List Int:=(List.range l.length).map fun j=>tot (l.take j)
theorem Abb (l:List Int) (k:Nat):(Ln l k).length=l.length:=by rw [Ln,List.length_map,List.length_range]
theorem Aov (l:List Int):List.replicate l.length (0:Int)=Ln l 1:=by
 rw [Ln]
 refine List.ext_getElem? fun j=> ?_
 rw [List.getElem?_replicate,List.getElem?_map]
 by_cases h:j<l.length
 ·rw [if_pos h,List.getElem?_range h,Option.map_some]
  congr 1
  split
  ·have:j=0:=by omega
   subst this;rfl
  ·rfl
 ·rw [if_neg h,List.getElem?_eq_none (by rw [List.length_range];omega)];rfl
theorem Abc {l:List Int} {j k:Nat} (h:j<k) (hj:j<l.length):(Ln l k)[j]? =some (tot (l.take j)):=by
 rw [Ln,List.getElem?_map,List.getElem?_range hj,Option.map_some,if_pos h]
theorem Aou {l:List Int} {k:Nat} (hk:k<l.length):(Ln l k).set k (tot (l.take k))=Ln l (k+1):=by
 refine List.ext_getElem? fun j=> ?_
 rw [List.getElem?_set]
 split
 ·rename_i h
  subst h
  rw [if_pos (by rw [Abb];exact hk),Abc (by omega) hk]
 ·rename_i h
  rw [Ln,Ln,List.getElem?_map,List.getElem?_map]
  by_cases hj:j<l.length
  ·rw [List.getElem?_range hj,Option.map_some,Option.map_some]
   congr 1
   by_cases e:j<k
   ·rw [if_pos e,if_pos (by omega)]
   ·rw [if_neg e,if_neg (by omega)]
  ·rw [List.getElem?_eq_none (by rw [List.length_range];omega)];rfl
theorem Aow {l:List Int} {k:Nat} (hk:l.length≤k):Ln l k=Bh l:=by
 rw [Ln,Bh]
 refine List.map_congr_left fun j hj=> ?_
 rw [if_pos (by have:=List.mem_range.1 hj;omega)]
theorem Yp (l:List Int) (h:Nums l):XC Tryz.prog 69 [.sl 1 (B8 l)] (fun r=>r= .sl 1 (B8 (Bh l))):=by
 have hll:=h.len
 refine Ao Agc Tryz.func69 R R lb<|zr<|za R R<|znr<|zm R R<|XL.len R R R Tryz.underlying64 fun hl6=>XL.step R (Px 7 (z:=(.int .i64 0)) (zs:= [dI 0]) (sz:=1) (bytes:=8) R R R Tryz.underlying64 (by kernel_rfl) (by kernel_rfl) (by kernel_rfl) (by decide) (by decide) (by omega) (by unfold maxLen;omega) (by omega))<|zp (As R (by conv=>lhs;whnf))<|?_
 refine zn<|zs<|zr<|za R R<|zn<|Ah<|?_
 refine Ax (α:=Nat) (fun k=>1≤k∧k≤l.length+1) (fun k=>mkF [(0, .d (.sl 1 (B8 l))),(2, .d (.v (.slice none 0 0))),(3, .own 7),(4, .d (dI k))]) (fun k=>mkH [(7, .row 3 1 ((Ln l k).map iv))]) (fun k=>l.length+1 - k) (1) (⟨Nat.le_refl _,by omega⟩) ?_ ?_ ?_
 exact fz ⟨sr,sr,sr,sr,trivial⟩
 exact gz ⟨by rw [←Aov,List.map_replicate];rfl,trivial⟩
 intro k hk0
 refine zs<|zr<|zm R R<|zm R R<|XL.len R R R Tryz.underlying64 fun hl10=>zp (Ar R R R)<|zn<|?_
 refine zd R (fun c11=> ?_) (fun c11=> ?_)
 have hkl:k<l.length:=by omega
 have h1:=(h.take (k - 1)).tot
 obtain ⟨x,hx⟩:∃x,l[k - 1]? =some x:=At (by omega)
 have h2:=h.bd x (List.mem_of_getElem? hx)
 have ho:=Abc (l:=l) (k:=k) (j:=k - 1) (by omega) (by omega)
 have hol:=Abb l k
 obtain ⟨z,hz⟩:∃z,(Ln l k)[k]? =some z:=At (by omega)
 have htk:tot (l.take k)=tot (l.take (k - 1))+x:=by have:=P9 hx;rwa [Nat.sub_add_cancel (by omega)] at this
 refine zi<|zs<|Ah<|Ci 13 [] (by kernel_rfl) (by kernel_rfl) (by kernel_rfl) (by kernel_rfl) (by decide)<|yp (Aw R (by conv=>lhs;whnf))<|?_
 refine ym R R<|yp (Aw R (by conv=>lhs;whnf))<|?_
 refine ym R R<|yp (C7 R R R (by omega) (by omega))<|yp (Cr R R R ((by omega:(k:Int) - 1=((k - 1:Nat):Int))) R C4 (by omega))<|yp (F3 R R Ai R (Ce (ho)) R)<|ym R R<|ym R R<|yp (C7 R R R (by omega) (by omega))<|yp (Gt R R R ((by omega:(k:Int) - 1=((k - 1:Nat):Int))) C4 (hx))<|yp (A0 R R Ai)<|yp (Aj R R R (by omega) (by omega))<|?_
 refine ChK.nil ⟨by kernel_rfl, ?_⟩
 refine zp (Ll R R R R C4 (by omega))<|XL.step R (Dk R R R (Ce hz) R R Dc R lb)<|zn<|Af (by kernel_rfl)<|zm R R<|zp (Aj R R R (by omega) (by omega))<|za R R<|zn<|?_
 exact Ak (k+1) (by omega) (by omega) (fz ⟨sr,sr,sr,sr,trivial⟩) (gz ⟨Ly (a:=tot (l.take k)) (by rw [htk];rfl) (Aou hkl).symm,trivial⟩)
 have he:=Aow (l:=l) (k:=k) (by omega)
 refine An<|zr<|zp (Aw R (by conv=>lhs;whnf))<|?_
 refine zp (As R (by conv=>lhs;whnf))<|?_
 exact zn<|zt<|Bf (i:=7) R<|z1 R R (rSl he)
end Go.Proofs.YtcihalbakenleaaGreat
namespace Go.Proofs.YtcihalbakenleaaGreat
open Go.RowKit
def Kk (f:Nat→Int) (n k:Nat):List Int:=(List.range n).map fun j=>if j<k then f j else 0
theorem Zd (f:Nat→Int) (n k:Nat):(Kk f n k).length=n:=by rw [Kk,List.length_map,List.length_range]
theorem Akg (f:Nat→Int) (n:Nat):List.replicate n (0:Int)=Kk f n 0:=by
 rw [Kk]
 refine List.ext_getElem? fun j=> ?_
 rw [List.getElem?_replicate,List.getElem?_map]
 by_cases h:j<n
 ·rw [if_pos h,List.getElem?_range h,Option.map_some,if_neg (by omega)]
 ·rw [if_neg h,List.getElem?_eq_none (by rw [List.length_range];omega)];rfl
theorem Am1 {f:Nat→Int} {n k:Nat} (hk:k<n):Kk f n (k+1)=(Kk f n k).set k (f k):=by
 refine List.ext_getElem? fun j=> ?_
 rw [List.getElem?_set]
 split
 ·rename_i h
  subst h
  rw [if_pos (by rw [Zd];exact hk),Kk,List.getElem?_map,List.getElem?_range hk,Option.map_some,if_pos (by omega)]
 ·rename_i h
  rw [Kk,Kk,List.getElem?_map,List.getElem?_map]
  by_cases hj:j<n
  ·rw [List.getElem?_range hj,Option.map_some,Option.map_some]
   congr 1
   by_cases e:j<k
   ·rw [if_pos e,if_pos (by omega)]
   ·rw [if_neg e,if_neg (by omega)]
  ·rw [List.getElem?_eq_none (by rw [List.length_range];omega)];rfl
theorem Am2 {f:Nat→Int} {n k:Nat} (hk:n≤k):Kk f n k=(List.range n).map f:=by
 rw [Kk]
 refine List.map_congr_left fun j hj=> ?_
 rw [if_pos (by have:=List.mem_range.1 hj;omega)]
def M8 (l:List Ev) (j:Nat):Int:=((l[j]?).map Ev.len).getD 0
theorem Ao4 {l:List Ev} {k:Nat} {e:Ev} (h:l[k]? =some e):M8 l k=e.len:=by rw [M8,h];rfl
theorem Amh (l:List Ev):(List.range l.length).map (M8 l)=wrS l:=by
 refine List.ext_getElem? fun j=> ?_
 rw [List.getElem?_map,wrS,List.getElem?_map]
 by_cases hj:j<l.length
 ·rw [List.getElem?_range hj,Option.map_some,M8,List.getElem?_eq_getElem hj];rfl
 ·rw [List.getElem?_eq_none (by rw [List.length_range];omega),List.getElem?_eq_none (by omega)];rfl
theorem Ae6 (l:List Ev) (hE:Evs l) (hlen:l.length≤128):XC Tryz.prog 132 [.sl 13 (l.map Ev.c)] (fun r=>r= .sl 1 (B8 (wrS l))):=by
 refine Ao Ad0 Tryz.func132 R R lb<|zr<|za R R<|znr<|zm R R<|XL.len R R R Tryz.underlying22 fun hl7=>XL.step R (Px 8 (z:=(.int .i64 0)) (zs:= [dI 0]) (sz:=1) (bytes:=8) R R R Tryz.underlying64 (by kernel_rfl) (by kernel_rfl) (by kernel_rfl) (by decide) (by decide) (by omega) (by unfold maxLen;omega) (by omega))<|zp (As R (by conv=>lhs;whnf))<|?_
 refine zn<|zs<|zr<|zm R R<|XL.len R R R Tryz.underlying22 fun hl10=>zm R R<|zn<|Ah<|?_
 refine Ax (α:=Nat) (fun k=>k≤l.length) (fun k=>mkF [(2, .d (.v (.slice none 0 0))),(3, .own 8),(9, .d (.sl 13 (l.map Ev.c))),(10, .d (dI l.length)),(11, .d (dI k))]) (fun k=>mkH [(8, .row 3 1 ((Kk (M8 l) l.length k).map iv))]) (fun k=>l.length - k) (0) (Nat.zero_le _) ?_ ?_ ?_
 exact fz ⟨sr,sr,sr,sr,sr,trivial⟩
 exact gz ⟨by rw [←Akg,List.map_replicate];rfl,trivial⟩
 intro k hk0
 refine zr<|zp (Ar R R R)<|zn<|zs<|?_
 refine zd R (fun c12=> ?_) (fun c12=> ?_)
 have hk0a:k<l.length:=by omega
 obtain ⟨x0,hx0⟩:=At hk0a
 have he:=hE x0 (List.mem_of_getElem? hx0)
 have hfl:=Zd (M8 l) l.length k
 obtain ⟨z,hz⟩:∃z,(Kk (M8 l) l.length k)[k]? =some z:=At (by omega)
 refine zi<|zs<|Ah<|zr<|zm R R<|zp (Am R R R B6 hx0)<|zp (Ae (s':= .d (.agg (Ev.c x0))) (Av R R Az lb) (by kernel_rfl))<|XL.step R (A4 5 (l:= [.d (dI 0), .d (dI 0), .d (dI 0), .d (dI 0), .d (dI 0), .d (.v (.slice none 0 0)), .d (.v (.slice none 0 0)), .d (dI 0), .d (dI 0), .d (dI 0), .d (.v (.slice none 0 0)), .d (dI 0), .d (dI 0)]) R B3 (by kernel_rfl))<|?_
 refine za R R<|XL.step R (Ag (l':= [.d (dI x0.site), .d (dI x0.num), .d (dI x0.kind), .d (dI x0.v.log), .d (dI x0.v.dots), .d (.sl 5 (x0.heads.map Hd.c)), .d (.sl 5 (x0.graces.map Gr.c)), .d (dI x0.art), .d (dI x0.orn), .d (dI x0.dyn), .d (.sl 2 (x0.lyr.map Sy.c)), .d (dI x0.stem), .d (dI x0.beam)]) R R R R B4 R lb (by kernel_rfl))<|zng<|zp (Aw R (by conv=>lhs;whnf))<|?_
 refine zm R R<|zp (Ae (s':= .d (.agg (Ev.c x0))) (Ac (Ad R R Az R lb)) (by kernel_rfl))<|XL.call1 R R (Aiv _ (by assumption)) R<|zm R R<|zp (Bc R R R)<|zp (Bc R R R)<|zp (Ll R R R R C4 (by omega))<|XL.step R (Dk R R R (Ce hz) R R Dc R lb)<|zn<|Af (by kernel_rfl)<|zp (Aj R R R (by omega) (by omega))<|zm R R<|zn<|?_
 exact Ak (k+1) (by omega) (by omega) (fz ⟨sr,sr,sr,sr,sr,trivial⟩) (gz ⟨Ly (a:=M8 l k) (by rw [Ao4 hx0];rfl) (Am1 hk0a),trivial⟩)
 have hk0b:k=l.length:=by omega
 have he:=Am2 (f:=M8 l) (n:=l.length) (k:=k) (by omega)
 refine An<|zr<|zp (Aw R (by conv=>lhs;whnf))<|?_
 refine zp (As R (by conv=>lhs;whnf))<|?_
 exact zn<|zt<|Bf (i:=8) R<|z1 R R (rSl (by rw [he,Amh]))
def Vo.whole (v:Vo):Prop:=match v.evs with| []=>False|e::_=>e.kind=3
instance (v:Vo):Decidable v.whole:=by unfold Vo.whole;cases v.evs<;>exact inferInstance
theorem G2 {v:Vo} {e:Ev} (h:v.evs[0]? =some e):v.whole↔e.kind=3:=by
 unfold Vo.whole
 cases hv:v.evs with
 |nil=>rw [hv] at h;cases h
 |cons x l=>rw [hv] at h;cases h;exact Iff.rfl
theorem Anm {v:Vo} (h:¬0<(v.evs.length:Int)):¬v.whole:=by
 unfold Vo.whole
 cases hv:v.evs with
 |nil=>exact fun h=>h
 |cons x l=>rw [hv] at h;simp at h
def Vo.absent (v:Vo):Prop:=v.evs.length=0∧v.tups.length=0
instance (v:Vo):Decidable v.absent:=by unfold Vo.absent;exact inferInstance
theorem Z9 (v:Vo):XC Tryz.prog 87 [.agg (Vo.c v)] (fun r=>r=dB (decide v.whole)):=by
 refine Ao Afv Tryz.func87 R R lb<|zr<|XL.step R (Au 1 (l:= [.d (.sl 13 (v.evs.map Ev.c)), .d (.sl 4 (v.tups.map Tp.c))]) R R (by kernel_rfl))<|za R R<|znr<|zp (Aa R R Ay)<|zp (Ab R R Bi R R)<|XL.len R R R Tryz.underlying22 fun hl5=>zp (A8 R R R)<|zm R R<|?_
 refine XL.dec 7 R (fun g7=> ?_) (fun g7=> ?_)
 obtain ⟨e,he⟩:∃e,v.evs[0]? =some e:=At (by omega)
 exact zp (Aa R R Ay)<|zp (Ab R R Bi R R)<|zp (Am (k:=0) R R R B6 (he))<|zp (Bp R R Bz)<|zp (A0 R R Ai)<|zp (A1 R R R)<|zq R R R<|za R R<|zn<|zt<|z1 R R (rB (by rw [decide_eq_decide];exact (G2 he).symm))
 exact zk 6 R<|zq R R R<|za R R<|zn<|zt<|z1 R R (rB (by rw [eq_comm,decide_eq_false_iff_not];exact Anm g7))
theorem Va (v:Vo):XC Tryz.prog 47 [.agg (Vo.c v)] (fun r=>r=dB (decide v.absent)):=by
 refine Ao Agu Tryz.func47 R R lb<|zr<|XL.step R (Au 1 (l:= [.d (.sl 13 (v.evs.map Ev.c)), .d (.sl 4 (v.tups.map Tp.c))]) R R (by kernel_rfl))<|za R R<|znr<|zp (Aa R R Ay)<|zp (Ab R R Bi R R)<|XL.len R R R Tryz.underlying22 fun hl5=>zp (A1 R R R)<|zm R R<|?_
 refine XL.dec 7 R (fun g7=> ?_) (fun g7=> ?_)
 exact zp (Aa R R Bn)<|zp (Ab R R B0 R R)<|XL.len R R R Tryz.underlying23 fun hl10=>zp (A1 R R R)<|zq R R R<|za R R<|zn<|zt<|z1 R R (rB (by rw [decide_eq_decide];unfold Vo.absent;omega))
 exact zk 4 R<|zq R R R<|za R R<|zn<|zt<|z1 R R (rB (by rw [eq_comm,decide_eq_false_iff_not];unfold Vo.absent;omega))
def C8 (n:Nat):Nat→List Ev→Int
 |_, []=>0
 |k,e::r=>if e.err≠0 then e.err else if e.kind=3∧(0<k∨1<n) then 11 else C8 n (k+1) r
def Dp (v:Vo):Int:=
 if C8 v.evs.length 0 v.evs≠0 then C8 v.evs.length 0 v.evs else if Cz v.tups (wrS v.evs)≠0 then Cz v.tups (wrS v.evs) else if F0 v.tups (wrS v.evs)≠0 then 21 else 0
def Ed (v:Vo):List Int:=if Dp v=0 then H5 v.tups (wrS v.evs) else []
theorem Q3 {n k:Nat} {l:List Ev} {e:Ev} (h:l[k]? =some e) (he:e.err≠0):C8 n k (l.drop k)=e.err:=by rw [C0 h,C8,if_pos he]
theorem K9 {n k:Nat} {l:List Ev} {e:Ev} (h:l[k]? =some e) (he:¬e.err≠0) (hk:e.kind=3∧(0<k∨1<n)):C8 n k (l.drop k)=11:=by rw [C0 h,C8,if_neg he,if_pos hk]
theorem Mp {n k:Nat} {l:List Ev} {e:Ev} (h:l[k]? =some e) (he:¬e.err≠0) (hk:¬(e.kind=3∧(0<k∨1<n))):C8 n k (l.drop k)=C8 n (k+1) (l.drop (k+1)):=by rw [C0 h,C8,if_neg he,if_neg hk]
theorem O1 {v:Vo} {e:Int} (he:e=C8 v.evs.length 0 v.evs) (hn:e≠0): []=Ed v∧e=Dp v:=by
 have e2:Dp v=e:=by rw [Dp, ←he,if_pos hn]
 exact ⟨by rw [Ed,e2,if_neg hn],e2.symm⟩
theorem Aj5 {v:Vo} (h:C8 v.evs.length 0 v.evs=0) (hn:Cz v.tups (wrS v.evs)≠0): []=Ed v∧Cz v.tups (wrS v.evs)=Dp v:=by
 have e2:Dp v=Cz v.tups (wrS v.evs):=by rw [Dp,if_neg (by omega),if_pos hn]
 exact ⟨by rw [Ed,e2,if_neg hn],e2.symm⟩
theorem Aj4 {v:Vo} (h:C8 v.evs.length 0 v.evs=0) (h2:¬Cz v.tups (wrS v.evs)≠0) (hn:F0 v.tups (wrS v.evs)≠0): []=Ed v∧21=Dp v:=by
 have e2:Dp v=21:=by rw [Dp,if_neg (by omega),if_neg h2,if_pos hn]
 exact ⟨by rw [Ed,e2,if_neg (by decide)],e2.symm⟩
theorem Aj3 {v:Vo} (h:C8 v.evs.length 0 v.evs=0) (h2:¬Cz v.tups (wrS v.evs)≠0) (h3:¬F0 v.tups (wrS v.evs)≠0):H5 v.tups (wrS v.evs)=Ed v∧0=Dp v:=by
 have e2:Dp v=0:=by rw [Dp,if_neg (by omega),if_neg h2,if_neg h3]
 exact ⟨by rw [Ed,e2,if_pos rfl],e2.symm⟩
theorem Uu (v:Vo) (hE:Evs v.evs) (hlen:v.evs.length≤128):XC Tryz.prog 88 [.agg (Vo.c v)] (fun r=>r= .tup [.sl 1 (B8 (Ed v)),dI (Dp v)]):=by
 refine Ao Afu Tryz.func88 R R lb<|zr<|XL.step R (Au 1 (l:= [.d (.sl 13 (v.evs.map Ev.c)), .d (.sl 4 (v.tups.map Tp.c))]) R R (by kernel_rfl))<|za R R<|za R R<|zn<|zs<|zr<|zp (Aa R R Ay)<|zp (Ab R R Bi R R)<|XL.len R R R Tryz.underlying22 fun hl14=>zm R R<|zn<|Ah<|?_
 refine Ax (α:=Nat) (fun k=>k≤v.evs.length∧C8 v.evs.length k (v.evs.drop k)=C8 v.evs.length 0 v.evs) (fun k=>mkF [(1, .ptr 1 0 0),(13, .d (.sl 13 (v.evs.map Ev.c))),(14, .d (dI v.evs.length)),(15, .d (dI k))]) (fun k=>mkH [(1, .box ((Vo.c v).map S.d))]) (fun k=>v.evs.length - k) (0) (⟨Nat.zero_le _,by rw [List.drop_zero]⟩) ?_ ?_ ?_
 exact fz ⟨sr,sr,sr,sr,trivial⟩
 exact gz ⟨R,trivial⟩
 intro k hk0
 obtain ⟨hk,hgo⟩:=hk0
 refine zr<|zp (Ar R R R)<|zn<|zs<|?_
 refine zd R (fun c16=> ?_) (fun c16=> ?_)
 have hk0a:k<v.evs.length:=by omega
 obtain ⟨x0,hx0⟩:=At hk0a
 have he:=hE x0 (List.mem_of_getElem? hx0)
 refine zi<|zs<|Ah<|zr<|zm R R<|zp (Am R R R B6 hx0)<|zp (Ae (s':= .d (.agg (Ev.c x0))) (Av R R Az lb) (by kernel_rfl))<|XL.step R (A4 5 (l:= [.d (dI 0), .d (dI 0), .d (dI 0), .d (dI 0), .d (dI 0), .d (.v (.slice none 0 0)), .d (.v (.slice none 0 0)), .d (dI 0), .d (dI 0), .d (dI 0), .d (.v (.slice none 0 0)), .d (dI 0), .d (dI 0)]) R B3 (by kernel_rfl))<|?_
 refine za R R<|XL.step R (Ag (l':= [.d (dI x0.site), .d (dI x0.num), .d (dI x0.kind), .d (dI x0.v.log), .d (dI x0.v.dots), .d (.sl 5 (x0.heads.map Hd.c)), .d (.sl 5 (x0.graces.map Gr.c)), .d (dI x0.art), .d (dI x0.orn), .d (dI x0.dyn), .d (.sl 2 (x0.lyr.map Sy.c)), .d (dI x0.stem), .d (dI x0.beam)]) R R R R B4 R lb (by kernel_rfl))<|zn<|zs<|zr<|?_
 refine zp (Ae (s':= .d (.agg (Ev.c x0))) (Ac (Ad R R Az R lb)) (by kernel_rfl))<|XL.call1 R R (O9 _ (by assumption)) R<|za R R<|znr<|zm R R<|zp (Bg R R R)<|zn<|?_
 refine zd R (fun c23=> ?_) (fun c23=> ?_)
 refine zr<|zm R R<|za R R<|za R R<|zn<|zt<|?_
 exact Bl R (RV.nil (sz:=1) R R) (RV.tmp R R) (r2 (rSl (O1 (by rw [←hgo,Q3 hx0 c23]) c23).1) (rI (O1 (by rw [←hgo,Q3 hx0 c23]) c23).2))
 refine zi<|zr<|zp (Aa R R Bz)<|zp (Ab R R Ai R R)<|zp (A1 R R R)<|zm R R<|?_
 refine XL.dec 28 R (fun g28=> ?_) (fun g28=> ?_)
 refine zm R R<|zp (A8 R R R)<|zm R R<|?_
 refine XL.dec 31 R (fun g31=> ?_) (fun g31=> ?_)
 refine zk 4 R<|zq R R R<|zq R R R<|zn<|Aq (by kernel_rfl) R<|zr<|za R R<|za R R<|zn<|zt<|?_
 exact Bl R (RV.nil (sz:=1) R R) (RV.tmp R R) (r2 (rSl (O1 (e:=11) (by rw [←hgo,K9 hx0 c23 (by omega)]) (by decide)).1) (rI (O1 (by rw [←hgo,K9 hx0 c23 (by omega)]) (by decide)).2))
 refine zp (Aa R R Ay)<|zp (Ab R R Bi R R)<|XL.len R R R Tryz.underlying22 fun hl34=>zp (A8 R R R)<|zq R R R<|zq R R R<|zn<|?_
 refine zd R (fun c37=> ?_) (fun c37=> ?_)
 refine zr<|za R R<|za R R<|zn<|zt<|?_
 exact Bl R (RV.nil (sz:=1) R R) (RV.tmp R R) (r2 (rSl (O1 (e:=11) (by rw [←hgo,K9 hx0 c23 (by omega)]) (by decide)).1) (rI (O1 (by rw [←hgo,K9 hx0 c23 (by omega)]) (by decide)).2))
 refine zi<|Af (by kernel_rfl)<|zp (Aj R R R (by omega) (by omega))<|zm R R<|zn<|?_
 exact Ak (k+1) (⟨by omega,by rw [←Mp hx0 c23 (by omega)];exact hgo⟩) (by omega) (fz ⟨sr,sr,sr,sr,trivial⟩) (gz ⟨rfl,trivial⟩)
 refine zk 8 R<|zq R R R<|zn<|A7 (by kernel_rfl) R<|zi<|Af (by kernel_rfl)<|zp (Aj R R R (by omega) (by omega))<|zm R R<|zn<|?_
 exact Ak (k+1) (⟨by omega,by rw [←Mp hx0 c23 (by omega)];exact hgo⟩) (by omega) (fz ⟨sr,sr,sr,sr,trivial⟩) (gz ⟨rfl,trivial⟩)
 have hk0b:k=v.evs.length:=by omega
 have hz:C8 v.evs.length 0 v.evs=0:=by rw [←hgo,hk0b,List.drop_length];rfl
 refine An<|zr<|zp (Aa R R Ay)<|zp (Ab R R Bi R R)<|XL.call1 R R (Ae6 _ (by assumption) (by omega)) R<|za R R<|znr<|zp (Aa R R Bn)<|zp (Ab R R B0 R R)<|zm R R<|XL.call1 R R (Tg _ _) R<|zm R R<|zp (Bc R R R)<|zp (Bc R R R)<|?_
 refine za R R<|za R R<|zn<|zs<|zr<|zm R R<|zp (Bg R R R)<|zn<|?_
 refine zd R (fun c50=> ?_) (fun c50=> ?_)
 refine zr<|zm R R<|za R R<|za R R<|zn<|zt<|?_
 exact Bl R (RV.nil (sz:=1) R R) (RV.tmp R R) (r2 (rSl (Aj5 hz c50).1) (rI (Aj5 hz c50).2))
 refine zi<|zs<|zr<|zp (Aa R R Bn)<|zp (Ab R R B0 R R)<|zm R R<|XL.call1 R R (Ano _ _) R<|zm R R<|zp (Bc R R R)<|zp (Bc R R R)<|za R R<|za R R<|znr<|zm R R<|?_
 refine zp (Bg R R R)<|zn<|?_
 refine zd R (fun c60=> ?_) (fun c60=> ?_)
 refine zr<|za R R<|za R R<|zn<|zt<|?_
 exact Bl R (RV.nil (sz:=1) R R) (RV.tmp R R) (r2 (rSl (Aj4 hz c50 c60).1) (rI (Aj4 hz c50 c60).2))
 refine zi<|zr<|zm R R<|za R R<|za R R<|zn<|zt<|?_
 exact Bl R (RV.tmp R R) (RV.tmp R R) (r2 (rSl (Aj3 hz c50 c60).1) (rI (Aj3 hz c50 c60).2))
def Cj (v:Vo) (L:Int):Int:=
 if L<1∨15482880<L then 2 else if 128<v.evs.length then 9 else
 if v.whole∧v.evs.length=1 then (match v.evs with| []=>0|e::_=>if e.err≠0 then e.err else if 0<v.tups.length then 21 else 0) else Dp v
def C3 (v:Vo) (L:Int):List Int:=if Cj v L≠0 then [] else if v.whole∧v.evs.length=1 then [L] else Ed v
def ckE (v:Vo) (L:Int):Int:=if Cj v L=0∧0<(C3 v L).length∧tot (C3 v L)≠L then 20 else Cj v L
def ckL (v:Vo) (L:Int):List Int:=if ckE v L≠0 then [] else C3 v L
theorem S2 {v:Vo} {L:Int} (h:L<1∨15482880<L): []=C3 v L∧2=Cj v L:=by
 have e:Cj v L=2:=by rw [Cj,if_pos h]
 exact ⟨by rw [C3,e,if_pos (by decide)],e.symm⟩
theorem Aj1 {v:Vo} {L:Int} (h:¬L<1) (h':¬15482880<L) (h2:128<(v.evs.length:Int)): []=C3 v L∧9=Cj v L:=by
 have e:Cj v L=9:=by rw [Cj,if_neg (by omega),if_pos (by omega)]
 exact ⟨by rw [C3,e,if_pos (by decide)],e.symm⟩
theorem Zz {v:Vo} {L:Int} (h:¬L<1) (h':¬15482880<L) (h2:¬128<(v.evs.length:Int)) (hw:v.whole) (h1:(v.evs.length:Int)=1) {e:Ev} (he:v.evs[0]? =some e):
  Cj v L=(if e.err≠0 then e.err else if 0<v.tups.length then 21 else 0):=by
 rw [Cj,if_neg (by omega),if_neg (by omega),if_pos ⟨hw,by omega⟩]
 cases hv:v.evs with
 |nil=>rw [hv] at he;cases he
 |cons x l=>rw [hv] at he;cases he;rfl
theorem Wi {v:Vo} {L:Int} (h:¬L<1) (h':¬15482880<L) (h2:¬128<(v.evs.length:Int)) (hw:¬(v.whole∧(v.evs.length:Int)=1)):Ed v=C3 v L∧Dp v=Cj v L:=by
 have hw':¬(v.whole∧v.evs.length=1):=fun k=>hw ⟨k.1,by omega⟩
 have e:Cj v L=Dp v:=by rw [Cj,if_neg (by omega),if_neg (by omega),if_neg hw']
 refine ⟨?_,e.symm⟩
 rw [C3,e,if_neg hw']
 split
 ·rename_i hn;rw [Ed,if_neg hn]
 ·rfl
theorem Wj {v:Vo} {L a:Int} (h:Cj v L=a) (ha:a≠0): []=C3 v L∧a=Cj v L:=⟨by rw [C3,h,if_pos ha],h.symm⟩
theorem Amf {v:Vo} {L:Int} (h:Cj v L=0) (hw:v.whole) (h1:(v.evs.length:Int)=1): [L]=C3 v L∧0=Cj v L:=⟨by rw [C3,h,if_neg (by decide),if_pos ⟨hw,by omega⟩],h.symm⟩
theorem Aj0 (v:Vo) (L:Int) (hE:Evs v.evs):XC Tryz.prog 71 [.agg (Vo.c v), .v (.int .i64 L)] (fun r=>r= .tup [.sl 1 (B8 (C3 v L)),dI (Cj v L)]):=by
 refine Ao Aga Tryz.func71 R R lb<|zr<|XL.step R (Au 2 (l:= [.d (.sl 13 (v.evs.map Ev.c)), .d (.sl 4 (v.tups.map Tp.c))]) R R (by kernel_rfl))<|za R R<|za R R<|zn<|zs<|Ah<|zr<|zm R R<|zp (Ar R R R)<|zm R R<|?_
 refine XL.dec 10 R (fun g10=> ?_) (fun g10=> ?_)
 refine zk 2 R<|zq R R R<|za R R<|zn<|Aq (by kernel_rfl) R<|zr<|za R R<|za R R<|zn<|zt<|?_
 exact Bl R (RV.nil (sz:=1) R R) (RV.tmp R R) (r2 (rSl (S2 (v:=v) (by omega)).1) (rI (S2 (v:=v) (by omega)).2))
 refine zm R R<|zp (A8 R R R)<|zq R R R<|za R R<|zn<|?_
 refine zd R (fun c7=> ?_) (fun c7=> ?_)
 refine zr<|za R R<|za R R<|zn<|zt<|?_
 exact Bl R (RV.nil (sz:=1) R R) (RV.tmp R R) (r2 (rSl (S2 (v:=v) (by omega)).1) (rI (S2 (v:=v) (by omega)).2))
 refine zr<|zp (Aa R R Ay)<|zp (Ab R R Bi R R)<|XL.len R R R Tryz.underlying22 fun hl17=>zp (A8 R R R)<|za R R<|zn<|?_
 refine zd R (fun c14=> ?_) (fun c14=> ?_)
 refine zr<|za R R<|za R R<|zn<|zt<|?_
 exact Bl R (RV.nil (sz:=1) R R) (RV.tmp R R) (r2 (rSl (Aj1 g10 c7 c14).1) (rI (Aj1 g10 c7 c14).2))
 refine zi<|zs<|zr<|zp (Ae (s':= .d (.agg (Vo.c v))) (Ac (Ad R R Ap R lb)) (by kernel_rfl))<|XL.call1 R R (Z9 _) R<|zm R R<|?_
 refine XL.dec 21 R (fun g21=> ?_) (fun g21=> ?_)
 refine zp (Aa R R Ay)<|zp (Ab R R Bi R R)<|XL.len R R R Tryz.underlying22 fun hl24=>zp (A1 R R R)<|zq R R R<|zn<|?_
 refine zd R (fun c26=> ?_) (fun c26=> ?_)
 refine zs<|zs<|?_
 obtain ⟨e,hxe⟩:∃e,v.evs[0]? =some e:=At (by omega)
 have he:=hE e (List.mem_of_getElem? hxe)
 have hle:=Zz (L:=L) g10 c7 c14 g21 c26 hxe
 refine Af (by kernel_rfl)<|zp (Aa R R Ay)<|zp (Ab R R Bi R R)<|zp (Am (k:=0) R R R B6 (hxe))<|zp (Ae (s':= .d (.agg (Ev.c e))) (Av R R Az lb) (by kernel_rfl))<|XL.call1 R R (O9 _ (by assumption)) R<|za R R<|znr<|zm R R<|zp (Bg R R R)<|zn<|?_
 refine zd R (fun c33=> ?_) (fun c33=> ?_)
 refine zr<|zm R R<|za R R<|za R R<|zn<|zt<|?_
 exact Bl R (RV.nil (sz:=1) R R) (RV.tmp R R) (r2 (rSl (Wj (by rw [hle,if_pos c33]) c33).1) (rI (Wj (by rw [hle,if_pos c33]) c33).2))
 refine zi<|zs<|zr<|zp (Aa R R Bn)<|zp (Ab R R B0 R R)<|XL.len R R R Tryz.underlying23 fun hl37=>zp (A8 R R R)<|zn<|?_
 refine zd R (fun c38=> ?_) (fun c38=> ?_)
 refine zr<|za R R<|za R R<|zn<|zt<|?_
 exact Bl R (RV.nil (sz:=1) R R) (RV.tmp R R) (r2 (rSl (Wj (a:=21) (by rw [hle,if_neg c33,if_pos (by omega)]) (by decide)).1) (rI (Wj (a:=21) (by rw [hle,if_neg c33,if_pos (by omega)]) (by decide)).2))
 refine zi<|zr<|zm R R<|XL.step R (Bj 40 R Tryz.underlying64 Dc E2 R R (by omega) (by omega))<|zp (As R (by conv=>lhs;whnf))<|?_
 refine za R R<|zn<|zt<|Bf (i:=40) R<|?_
 exact Bl R (RV.tmp R R) (RV.tmp R R) (r2 (rSl (l:= [L]) (g:=iv) (Amf (by rw [hle,if_neg c33,if_neg (by omega)]) g21 c26).1) (rI (Amf (by rw [hle,if_neg c33,if_neg (by omega)]) g21 c26).2))
 refine zi<|zr<|zp (Ae (s':= .d (.agg (Vo.c v))) (Ac (Ad R R Ap R lb)) (by kernel_rfl))<|XL.call1 R R (Uu _ (by assumption) (by omega)) R<|zp (Bc R R R)<|zp (Bc R R R)<|za R R<|za R R<|zn<|zt<|?_
 exact Bl R (RV.tmp R R) (RV.tmp R R) (r2 (rSl (Wi g10 c7 c14 (fun h=>c26 h.2)).1) (rI (Wi g10 c7 c14 (fun h=>c26 h.2)).2))
 refine zk 4 R<|zq R R R<|zn<|A7 (by kernel_rfl) R<|zi<|zr<|zp (Ae (s':= .d (.agg (Vo.c v))) (Ac (Ad R R Ap R lb)) (by kernel_rfl))<|XL.call1 R R (Uu _ (by assumption) (by omega)) R<|zp (Bc R R R)<|zp (Bc R R R)<|za R R<|za R R<|zn<|zt<|?_
 exact Bl R (RV.tmp R R) (RV.tmp R R) (r2 (rSl (Wi g10 c7 c14 (fun h=>g21 h.1)).1) (rI (Wi g10 c7 c14 (fun h=>g21 h.1)).2))
end Go.Proofs.YtcihalbakenleaaGreat
