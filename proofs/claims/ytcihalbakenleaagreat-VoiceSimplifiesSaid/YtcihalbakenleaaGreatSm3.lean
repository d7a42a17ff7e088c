/- Part 3 of what the statements need: lemmas and walks. -/
import Derived.Laws.StructEq
import Derived.Test.YtcihalbakenleaaGreatSm2
set_option linter.unusedVariables false
set_option linter.unusedSimpArgs false
set_option linter.unusedSectionVars false
set_option maxRecDepth 20000
set_option maxHeartbeats 8000000
namespace Go.Proofs.YtcihalbakenleaaGreat
open Go.RowKit
section
variable {P:Program} {n:Nat} {f:Fr} {h:Xh}
theorem RV.cells {a t m i:Nat} {l:List S} {ds:List D} (ha:Nat.blt a n=true) (hf:f a= .ptr i 0 0) (hi:h i=some (.box l)) (hs:aggB P t m=true) (hm:m≤l.length) (hd:Jp (l.take m)=some ds):RV P n f h (.cell a t) (.agg ds):=fun E H β act w hsim hfv=>by
 have g:=hfv.slot a (Gm ha)
 rw [hf] at g
 obtain ⟨L,h1,h2⟩:=I0 g
 rw [Nat.zero_mul,Nat.zero_add] at h2
 have hp : Bm P ⟨none, .load t (.tmp 0), t, "", #[], none⟩ (fun _ => .ptr i 0 0) h (.agg ((l.drop 0).take m)) := Ac rfl rfl hs hi (by omega)
 obtain ⟨u,r1,r2⟩:=hp E H β (fun _=>act.tmps.getD a undef) w hsim (fun x _=>by rw [h2];have:=VS.ptr (H:=H) 0 0 h1;rw [Nat.zero_mul,Nat.zero_add] at this;exact this)
 rw [I9 rfl h2] at r1
 refine ⟨u, ?_, ?_⟩
 ·unfold Tt
  simp only [Sem.run_bind,h2,asAddr,Sem.run_pure,Result.andThen_ok]
  generalize (loadVar t ⟨L.b,0,none⟩).run P w=r at r1
  cases r with
  |ok v w'=>simp only [Result.andThen_ok,Result.ok.injEq,Next.value.injEq] at r1;obtain ⟨rfl,rfl⟩:=r1;rfl
  |halt x w'=>simp [Result.andThen] at r1
 ·have:=r2.norm
  rw [List.drop_zero] at this
  unfold norm at this
  simp only [hd] at this
  exact Ey this
end
theorem Al {α:Type} {n:Nat} {I:α→Prop} {F:α→Fr} {G:α→Xh} {μ:α→Nat} {x:α} {K:D3} {f:Fr} {h:Xh} (x':α) (h1:I x') (h2:μ x'<μ x) (h3:FSub n f (F x')) (h4:HSub h (G x')):
  Nu (fun f' h'=>∃x',I x'∧μ x'<μ x∧FSub n f' (F x')∧HSub h' (G x')) K .normal f h:=⟨x',h1,h2,h3,h4⟩
section
variable {P:Program} {n:Nat} {ops:Array Oper} {rest:List Oper} {K:D3} {f:Fr} {h:Xh} {o:Oper} {F:FuncId} {ds:List D} {args:Array Operand} {tys:Array TypeId} {r:D}
theorem XL.call1 (ho:o.op= .call {callee:= .value (.func F),args:=args,argTypes:=tys}) (hw:Cd ops f n o.guard=some true) (hx:XC P F ds (fun d=>d=r))
  (ha:args.toList.map (ev f)=ds.map S.d) (hr:XL P n ops rest K (Bw f o.dst (.d r)) h):XL P n ops (o::rest) K f h:=
 XL.call ho hw hx ha (by rintro _ rfl;exact hr)
theorem XL.callv1 {x:Operand} {ps cs:List D} (ho:o.op= .call {callee:= .value x,args:=args,argTypes:=tys}) (hw:Cd ops f n o.guard=some true) (hxe:ev f x= .d (.fn F ps cs))
  (hx:XC P F (ps++ds++cs) (fun d=>d=r)) (ha:args.toList.map (ev f)=ds.map S.d) (hr:XL P n ops rest K (Bw f o.dst (.d r)) h):XL P n ops (o::rest) K f h:=
 XL.callv ho hw hxe hx ha (by rintro _ rfl;exact hr)
end
section
variable {P:Program} {o:Oper} {e:Operand→S} {h:Xh}
theorem Bo {t:TypeId} {x:Operand} {p:Prop} [Decidable p] (ho:o.op= .unOp .not t x) (hx:e x= .d (.v (.bool (decide p)))):Bm P o e h (.d (.v (.bool (decide (¬p))))):=by
 have:=Cr (P:=P) (h:=h) ho hx
 rwa [←decide_not] at this
def M4:List D→Option (List Value)
 | []=>some []
 | .v x::l=>match M4 l with|some vs=>some (x::vs)|none=>none
 |_::_=>none
theorem Rz:∀{l:List D} {vs:List Value},M4 l=some vs→l=vs.map D.v
 | [],vs,h=>by cases h;rfl
 | .v x::l,vs,h=>by
  unfold M4 at h
  cases hd:M4 l with
  |none=>rw [hd] at h;cases h
  |some vs'=>rw [hd] at h;cases h;rw [List.map_cons, ←Rz hd]
theorem Vn {H:Hp} {u:Value} {l:List D} {vs:List Value} (hv:VD H u (.agg l)) (hp:M4 l=some vs):u= .agg vs.toArray:=by
 obtain ⟨cs,rfl,h1,h2⟩:=Tg hv
 have:=Rz hp
 subst this
 congr 1
 apply Array.ext'
 refine List.ext_getElem? fun i=> ?_
 by_cases hi:i<cs.size
 ·have hc:cs[i]? =some cs[i]:=Array.getElem?_eq_getElem hi
  rw [List.length_map] at h1
  have hl:vs[i]? =some vs[i]:=List.getElem?_eq_getElem (by omega)
  have:=Uu (h2 i _ (.v vs[i]) hc (by rw [List.getElem?_map,hl];rfl))
  rw [Array.getElem?_toList,hc,this]
  simp [hl]
 ·rw [List.length_map] at h1
  rw [List.getElem?_eq_none (by simpa using hi),List.getElem?_eq_none (by simp;omega)]
theorem Gi {op:BinOp} {t t':TypeId} {x y:Operand} {la lb:List D} {va vb:List Value} {r:Value} (ho:o.op= .binOp op t x y t') (hx:e x= .d (.agg la)) (hy:e y= .d (.agg lb)) (ha:M4 la=some va) (hb:M4 lb=some vb)
  (hg:P.eqGuardType P.depth t=false) (hr:∀w,(binOp op t (.agg va.toArray) (.agg vb.toArray)).run P w= .ok r w):Bm P o e h (.d (.v r)):=fun E H β ρ w _ hop=>by
 have g1:=hop x (by rw [ho];simp [Op.operands])
 have g2:=hop y (by rw [ho];simp [Op.operands])
 rw [hx] at g1
 rw [hy] at g2
 refine ⟨r, ?_, .d (.v _)⟩
 unfold execOp
 simp only [ho,Vn (Ey g1) ha,Vn (Ey g2) hb,Sem.run_bind,run_eqGuard_agg w op t x y va.toArray vb.toArray hg,Result.andThen_ok,hr,Sem.run_pure]
theorem Hc {t m k i off:Nat} {x y:Operand} {el:TypeId} {ik:IntKind} (ho:o.op= .indexAddr t x y) (hx:e x= .ptr i 0 off) (hy:e y= .d (.v (.int ik k))) (hu:P.underlying t=some (.array m el)) (hz:sizeB P el 1=true) (hk:k<m):Bm P o e h (.ptr i 0 (off+k)):=fun E H β ρ w _ hop=>by
 have g:=hop x (by rw [ho];simp [Op.operands])
 have g2:=hop y (by rw [ho];simp [Op.operands])
 rw [hx] at g
 rw [hy] at g2
 obtain ⟨L,h1,h2⟩:=I0 g
 have hlt:(0:Int)≤(k:Int)∧(k:Int)<(m:Int):=⟨by omega,by omega⟩
 refine ⟨.pointer (some ⟨L.b,0*L.sz+(off+k),none⟩), ?_, .ptr 0 (off+k) h1⟩
 unfold execOp
 simp only [ho,h2,Ei g2,Instr.indexAt,asIntOf,Instr.sureAddr,Sem.run_bind,run_underlying hu,Result.andThen_ok,Sem.run_pure,hlt,and_self,if_true,sizeB.run hz,Int.toNat_natCast,Nat.mul_one]
 rw [Go.WideShapes.add_plain,Nat.add_assoc]
end
end Go.Proofs.YtcihalbakenleaaGreat
namespace Go.Proofs.YtcihalbakenleaaGreat
open Go.RowKit
def iv (k:Int):List D:= [.v (.int .i64 k)]
def Bu (l:List Int):List (List D):=l.map iv
structure Pit where
 step:Int
 alter:Int
 oct:Int
 deriving DecidableEq
def Pit.c (p:Pit):List D:= [.v (.int .i64 p.step), .v (.int .i64 p.alter), .v (.int .i64 p.oct)]
structure Hd where
 p:Pit
 tied:Bool
 sh:Int
 deriving DecidableEq
def Hd.c (h:Hd):List D:= [.v (.int .i64 h.p.step), .v (.int .i64 h.p.alter), .v (.int .i64 h.p.oct), .v (.bool h.tied), .v (.int .i64 h.sh)]
structure Gr where
 p:Pit
 log:Int
 slash:Bool
 deriving DecidableEq
def Gr.c (g:Gr):List D:= [.v (.int .i64 g.p.step), .v (.int .i64 g.p.alter), .v (.int .i64 g.p.oct), .v (.int .i64 g.log), .v (.bool g.slash)]
structure Sy where
 text:List UInt8
 link:Int
 deriving DecidableEq
def Sy.c (s:Sy):List D:= [.v (.string ⟨s.text.toArray⟩), .v (.int .i64 s.link)]
structure Val where
 log:Int
 dots:Int
 deriving DecidableEq
def Val.c (v:Val):List D:= [.v (.int .i64 v.log), .v (.int .i64 v.dots)]
structure Ev where
 site:Int
 num:Int
 kind:Int
 v:Val
 heads:List Hd
 graces:List Gr
 art:Int
 orn:Int
 dyn:Int
 lyr:List Sy
 stem:Int
 beam:Int
def hdsD (l:List Hd):D:= .sl 5 (l.map Hd.c)
def grsD (l:List Gr):D:= .sl 5 (l.map Gr.c)
def sysD (l:List Sy):D:= .sl 2 (l.map Sy.c)
def Ev.c (e : Ev) : List D := [.v (.int .i64 e.site), .v (.int .i64 e.num), .v (.int .i64 e.kind), .v (.int .i64 e.v.log), .v (.int .i64 e.v.dots), .sl 5 (e.heads.map Hd.c), .sl 5 (e.graces.map Gr.c),
 .v (.int .i64 e.art), .v (.int .i64 e.orn), .v (.int .i64 e.dyn), .sl 2 (e.lyr.map Sy.c), .v (.int .i64 e.stem), .v (.int .i64 e.beam)]
structure Tp where
 first:Int
 count:Int
 actual:Int
 normal:Int
 deriving DecidableEq
def Tp.c (t:Tp):List D:= [.v (.int .i64 t.first), .v (.int .i64 t.count), .v (.int .i64 t.actual), .v (.int .i64 t.normal)]
structure Vo where
 evs:List Ev
 tups:List Tp
def Vo.c (v:Vo):List D:= [.sl 13 (v.evs.map Ev.c), .sl 4 (v.tups.map Tp.c)]
structure Me where
 count:Int
 unit:Int
 g0:Int
 g1:Int
 g2:Int
 g3:Int
 g4:Int
 g5:Int
 deriving DecidableEq
def Me.gs (m:Me):List Int:= [m.g0,m.g1,m.g2,m.g3,m.g4,m.g5]
def Me.c (m:Me):List D:= [.v (.int .i64 m.count), .v (.int .i64 m.unit), .v (.int .i64 m.g0), .v (.int .i64 m.g1), .v (.int .i64 m.g2), .v (.int .i64 m.g3), .v (.int .i64 m.g4), .v (.int .i64 m.g5)]
structure Pl where
 m:Me
 off:Int
 len:Int
def Pl.c (p:Pl):List D:= [.v (.int .i64 p.m.count), .v (.int .i64 p.m.unit), .v (.int .i64 p.m.g0), .v (.int .i64 p.m.g1), .v (.int .i64 p.m.g2), .v (.int .i64 p.m.g3), .v (.int .i64 p.m.g4), .v (.int .i64 p.m.g5), .v (.int .i64 p.off), .v (.int .i64 p.len)]
theorem Ct {α:Type} {l:List α} {k:Nat} {x:α} (h:l[k]? =some x):l.drop k=x::l.drop (k+1):=by
 obtain ⟨hk,e⟩:=List.getElem?_eq_some_iff.1 h
 rw [←e];exact List.drop_eq_getElem_cons hk
theorem Lm (l:List UInt8):(ByteArray.mk l.toArray).toList=l:=by rw [ByteArray.toList_eq]
theorem O0 {l:List UInt8} {k:Nat} {b:UInt8} (h:l[k]? =some b):(ByteArray.mk l.toArray)[k]? =some b:=by
 obtain ⟨hk,e⟩:=List.getElem?_eq_some_iff.1 h
 have hk':k<(ByteArray.mk l.toArray).size:=by simpa [ByteArray.size] using hk
 rw [getElem?_pos (ByteArray.mk l.toArray) k hk', ←e]
 rfl
theorem E9 {α:Type} {f:α→List D} {l:List α} {k:Nat} {x:α} (h:l[k]? =some x):(l.map f)[k]? =some (f x):=by rw [List.getElem?_map,h];rfl
theorem As {α:Type} {l:List α} {k:Nat} (h:k<l.length):∃x,l[k]? =some x:=⟨_,List.getElem?_eq_getElem h⟩
abbrev dI (n:Int):D:= .v (.int .i64 n)
abbrev dB (b:Bool):D:= .v (.bool b)
def I64 (n:Int):Prop:= -9223372036854775808≤n∧n≤9223372036854775807
end Go.Proofs.YtcihalbakenleaaGreat
namespace Go.Proofs.YtcihalbakenleaaGreat
open Go.RowKit
theorem C0:sizeB Tryz.prog 3 1=true:=by kernel_rfl
theorem Eu:zeroB Tryz.prog 3 (.int .i64 0):=by unfold zeroB;kernel_rfl
theorem Ah:scB Tryz.prog 3=true:=by kernel_rfl
theorem Ald:sizeB Tryz.prog 4 1=true:=by kernel_rfl
theorem K1:scB Tryz.prog 4=true:=by kernel_rfl
theorem Kz:scB Tryz.prog 9=true:=by kernel_rfl
theorem O1:sizeB Tryz.prog 22 1=true:=by kernel_rfl
theorem An2:zeroB Tryz.prog 22 (.slice none 0 0):=by unfold zeroB;kernel_rfl
theorem Bl:scB Tryz.prog 22=true:=by kernel_rfl
theorem Cv:elB Tryz.prog 22 13=true:=by kernel_rfl
theorem Fm:ElemTy Tryz.prog 22 60 13 152:=ElemTy.of (z:=(.agg #[.int .i64 0, .int .i64 0, .int .i64 0, .int .i64 0, .int .i64 0, .slice none 0 0, .slice none 0 0, .int .i64 0, .int .i64 0, .int .i64 0, .slice none 0 0, .int .i64 0, .int .i64 0])) Tryz.underlying22 (by kernel_rfl) rfl (by omega)
theorem Ie:sizeB Tryz.prog 23 1=true:=by kernel_rfl
theorem An1:zeroB Tryz.prog 23 (.slice none 0 0):=by unfold zeroB;kernel_rfl
theorem Bz:scB Tryz.prog 23=true:=by kernel_rfl
theorem E6:elB Tryz.prog 23 4=true:=by kernel_rfl
theorem Hg:ElemTy Tryz.prog 23 102 4 32:=ElemTy.of (z:=(.agg #[.int .i64 0, .int .i64 0, .int .i64 0, .int .i64 0])) Tryz.underlying23 (by kernel_rfl) rfl (by omega)
theorem D7:sizeB Tryz.prog 25 2=true:=by kernel_rfl
theorem Ca:zeroB Tryz.prog 25 (.agg #[.slice none 0 0, .slice none 0 0]):=by unfold zeroB;kernel_rfl
theorem Bg:aggB Tryz.prog 25 2=true:=by kernel_rfl
theorem Gc:Kx Tryz.prog 25 [(0,1),(1,1)]=true:=by kernel_rfl
theorem A0:Dc Tryz.prog 25 0 0=true:=by kernel_rfl
theorem B0:Dc Tryz.prog 25 1 1=true:=by kernel_rfl
theorem Ae3:zeroB Tryz.prog 26 (.agg #[.int .i64 0, .int .i64 0, .int .i64 0, .int .i64 0, .int .i64 0, .int .i64 0]):=by unfold zeroB;kernel_rfl
theorem Ack:aggB Tryz.prog 26 6=true:=by kernel_rfl
theorem An0:zeroB Tryz.prog 28 (.agg #[.int .i64 0, .int .i64 0, .int .i64 0, .int .i64 0, .int .i64 0, .int .i64 0, .int .i64 0, .int .i64 0]):=by unfold zeroB;kernel_rfl
theorem Be:aggB Tryz.prog 28 8=true:=by kernel_rfl
theorem Aqk:Kx Tryz.prog 28 [(0,1),(1,1),(2,6)]=true:=by kernel_rfl
theorem Dp:Dc Tryz.prog 28 0 0=true:=by kernel_rfl
theorem Hn:Dc Tryz.prog 28 1 1=true:=by kernel_rfl
theorem F3:Dc Tryz.prog 28 2 2=true:=by kernel_rfl
theorem Ar7:sizeB Tryz.prog 30 10=true:=by kernel_rfl
theorem Ae2:zeroB Tryz.prog 30 (.agg #[.int .i64 0, .int .i64 0, .int .i64 0, .int .i64 0, .int .i64 0, .int .i64 0, .int .i64 0, .int .i64 0, .int .i64 0, .int .i64 0]):=by unfold zeroB;kernel_rfl
theorem Jy:aggB Tryz.prog 30 10=true:=by kernel_rfl
theorem Aqj:Kx Tryz.prog 30 [(0,8),(8,1),(9,1)]=true:=by kernel_rfl
theorem Pw:Dc Tryz.prog 30 0 0=true:=by kernel_rfl
theorem Hm:Dc Tryz.prog 30 1 8=true:=by kernel_rfl
theorem Iq:Dc Tryz.prog 30 2 9=true:=by kernel_rfl
theorem Nj:sizeB Tryz.prog 33 1=true:=by kernel_rfl
theorem J9:zeroB Tryz.prog 33 (.int .i64 0):=by unfold zeroB;kernel_rfl
theorem Ar8:scB Tryz.prog 33=true:=by kernel_rfl
theorem Zp:Dc Tryz.prog 39 0 0=true:=by kernel_rfl
theorem Pv:Dc Tryz.prog 39 1 8=true:=by kernel_rfl
theorem Pu:Dc Tryz.prog 39 2 9=true:=by kernel_rfl
theorem Km:sizeB Tryz.prog 48 1=true:=by kernel_rfl
theorem Cn:scB Tryz.prog 48=true:=by kernel_rfl
theorem D9:elB Tryz.prog 48 5=true:=by kernel_rfl
theorem Un:ElemTy Tryz.prog 48 91 5 40:=ElemTy.of (z:=(.agg #[.int .i64 0, .int .i64 0, .int .i64 0, .bool false, .int .i64 0])) Tryz.underlying48 (by kernel_rfl) rfl (by omega)
theorem Anj:sizeB Tryz.prog 54 2=true:=by kernel_rfl
theorem Anz:zeroB Tryz.prog 54 (.agg #[.int .i64 0, .int .i64 0]):=by unfold zeroB;kernel_rfl
theorem Jh:aggB Tryz.prog 54 2=true:=by kernel_rfl
theorem Aqi:Kx Tryz.prog 54 [(0,1),(1,1)]=true:=by kernel_rfl
theorem Zo:Dc Tryz.prog 54 0 0=true:=by kernel_rfl
theorem Zn:Dc Tryz.prog 54 1 1=true:=by kernel_rfl
theorem D1:sizeB Tryz.prog 56 2=true:=by kernel_rfl
theorem Db:zeroB Tryz.prog 56 (.agg #[.int .i64 0, .int .i64 0]):=by unfold zeroB;kernel_rfl
theorem Ck:aggB Tryz.prog 56 2=true:=by kernel_rfl
theorem I2:Kx Tryz.prog 56 [(0,1),(1,1)]=true:=by kernel_rfl
theorem Ld:Dc Tryz.prog 56 0 0=true:=by kernel_rfl
theorem Hl:Dc Tryz.prog 56 1 1=true:=by kernel_rfl
theorem Ani:sizeB Tryz.prog 57 1=true:=by kernel_rfl
theorem Ih:scB Tryz.prog 57=true:=by kernel_rfl
theorem Py:elB Tryz.prog 57 5=true:=by kernel_rfl
theorem Aro:ElemTy Tryz.prog 57 138 5 40:=ElemTy.of (z:=(.agg #[.int .i64 0, .int .i64 0, .int .i64 0, .int .i64 0, .bool false])) Tryz.underlying57 (by kernel_rfl) rfl (by omega)
theorem Anh:sizeB Tryz.prog 58 1=true:=by kernel_rfl
theorem Ig:scB Tryz.prog 58=true:=by kernel_rfl
theorem N3:elB Tryz.prog 58 2=true:=by kernel_rfl
theorem Arn:ElemTy Tryz.prog 58 140 2 24:=ElemTy.of (z:=(.agg #[.string ⟨#[]⟩, .int .i64 0])) Tryz.underlying58 (by kernel_rfl) rfl (by omega)
theorem B4:sizeB Tryz.prog 60 13=true:=by kernel_rfl
theorem B3:zeroB Tryz.prog 60 (.agg #[.int .i64 0, .int .i64 0, .int .i64 0, .int .i64 0, .int .i64 0, .slice none 0 0, .slice none 0 0, .int .i64 0, .int .i64 0, .int .i64 0, .slice none 0 0, .int .i64 0, .int .i64 0]):=by unfold zeroB;kernel_rfl
theorem A1:aggB Tryz.prog 60 13=true:=by kernel_rfl
theorem Mt:Kx Tryz.prog 60 [(0,2),(2,1),(3,2),(5,1),(6,1),(7,1),(8,1),(9,1),(10,1),(11,1),(12,1)]=true:=by kernel_rfl
theorem Em:Dc Tryz.prog 60 0 0=true:=by kernel_rfl
theorem Bp:Dc Tryz.prog 60 1 2=true:=by kernel_rfl
theorem Cs:Dc Tryz.prog 60 2 3=true:=by kernel_rfl
theorem Ba:Dc Tryz.prog 60 3 5=true:=by kernel_rfl
theorem El:Dc Tryz.prog 60 4 6=true:=by kernel_rfl
theorem Cw:Dc Tryz.prog 60 5 7=true:=by kernel_rfl
theorem F2:Dc Tryz.prog 60 6 8=true:=by kernel_rfl
theorem D2:Dc Tryz.prog 60 7 9=true:=by kernel_rfl
theorem Ek:Dc Tryz.prog 60 8 10=true:=by kernel_rfl
theorem Do:Dc Tryz.prog 60 9 11=true:=by kernel_rfl
theorem Fb:Dc Tryz.prog 60 10 12=true:=by kernel_rfl
theorem C5:elB Tryz.prog 64 1=true:=by kernel_rfl
theorem G0:ElemTy Tryz.prog 64 3 1 8:=ElemTy.of (z:=(.int .i64 0)) Tryz.underlying64 (by kernel_rfl) rfl (by omega)
theorem Anx:zeroB Tryz.prog 89 (.agg #[.int .i64 0, .int .i64 0, .int .i64 0]):=by unfold zeroB;kernel_rfl
theorem Eo:aggB Tryz.prog 89 3=true:=by kernel_rfl
theorem Aqh:Kx Tryz.prog 89 [(0,1),(1,1),(2,1)]=true:=by kernel_rfl
theorem Lc:Dc Tryz.prog 89 0 0=true:=by kernel_rfl
theorem Lb:Dc Tryz.prog 89 1 1=true:=by kernel_rfl
theorem La:Dc Tryz.prog 89 2 2=true:=by kernel_rfl
theorem Ni:sizeB Tryz.prog 91 5=true:=by kernel_rfl
theorem Hu:zeroB Tryz.prog 91 (.agg #[.int .i64 0, .int .i64 0, .int .i64 0, .bool false, .int .i64 0]):=by unfold zeroB;kernel_rfl
theorem Ks:aggB Tryz.prog 91 5=true:=by kernel_rfl
theorem X8:Kx Tryz.prog 91 [(0,3),(3,1),(4,1)]=true:=by kernel_rfl
theorem F1:Dc Tryz.prog 91 0 0=true:=by kernel_rfl
theorem Gk:Dc Tryz.prog 91 1 3=true:=by kernel_rfl
theorem M9:Dc Tryz.prog 91 2 4=true:=by kernel_rfl
theorem Ef:elB Tryz.prog 98 4=true:=by kernel_rfl
theorem Lu:ElemTy Tryz.prog 98 135 4 32:=ElemTy.of (z:=(.agg #[.int .i64 0, .int .i64 0, .int .i64 0, .int .i64 0])) Tryz.underlying98 (by kernel_rfl) rfl (by omega)
theorem Gw:sizeB Tryz.prog 102 4=true:=by kernel_rfl
theorem Ex:zeroB Tryz.prog 102 (.agg #[.int .i64 0, .int .i64 0, .int .i64 0, .int .i64 0]):=by unfold zeroB;kernel_rfl
theorem Co:aggB Tryz.prog 102 4=true:=by kernel_rfl
theorem Aom:Kx Tryz.prog 102 [(0,1),(1,1),(2,1),(3,1)]=true:=by kernel_rfl
theorem Df:Dc Tryz.prog 102 0 0=true:=by kernel_rfl
theorem Gf:Dc Tryz.prog 102 1 1=true:=by kernel_rfl
theorem Ls:Dc Tryz.prog 102 2 2=true:=by kernel_rfl
theorem N1:Dc Tryz.prog 102 3 3=true:=by kernel_rfl
theorem Qy:elB Tryz.prog 106 2=true:=by kernel_rfl
theorem Iu:ElemTy Tryz.prog 106 56 2 16:=ElemTy.of (z:=(.agg #[.int .i64 0, .int .i64 0])) Tryz.underlying106 (by kernel_rfl) rfl (by omega)
theorem Jv:sizeB Tryz.prog 135 4=true:=by kernel_rfl
theorem Hh:zeroB Tryz.prog 135 (.agg #[.int .i64 0, .int .i64 0, .int .i64 0, .int .i64 0]):=by unfold zeroB;kernel_rfl
theorem Dy:aggB Tryz.prog 135 4=true:=by kernel_rfl
theorem Ae9:Kx Tryz.prog 135 [(0,1),(1,1),(2,1),(3,1)]=true:=by kernel_rfl
theorem En:Dc Tryz.prog 135 0 0=true:=by kernel_rfl
theorem De:Dc Tryz.prog 135 1 1=true:=by kernel_rfl
theorem Jd:Dc Tryz.prog 135 2 2=true:=by kernel_rfl
theorem Ki:Dc Tryz.prog 135 3 3=true:=by kernel_rfl
theorem Air:sizeB Tryz.prog 138 5=true:=by kernel_rfl
theorem Xz:zeroB Tryz.prog 138 (.agg #[.int .i64 0, .int .i64 0, .int .i64 0, .int .i64 0, .bool false]):=by unfold zeroB;kernel_rfl
theorem Ox:aggB Tryz.prog 138 5=true:=by kernel_rfl
theorem Wz:Dc Tryz.prog 138 0 0=true:=by kernel_rfl
theorem Qx:Dc Tryz.prog 138 1 3=true:=by kernel_rfl
theorem X7:sizeB Tryz.prog 140 2=true:=by kernel_rfl
theorem Oy:zeroB Tryz.prog 140 (.agg #[.string ⟨#[]⟩, .int .i64 0]):=by unfold zeroB;kernel_rfl
theorem Iv:aggB Tryz.prog 140 2=true:=by kernel_rfl
theorem Aol:Kx Tryz.prog 140 [(0,1),(1,1)]=true:=by kernel_rfl
theorem Ge:Dc Tryz.prog 140 0 0=true:=by kernel_rfl
theorem Kh:Dc Tryz.prog 140 1 1=true:=by kernel_rfl
theorem Akn:elB Tryz.prog 177 1=true:=by kernel_rfl
theorem Arp:elB Tryz.prog 180 1=true:=by kernel_rfl
theorem Aqe:sizeB Tryz.prog 210 7=true:=by kernel_rfl
theorem Xy:zeroB Tryz.prog 210 (.agg #[.int .i64 0, .int .i64 0, .int .i64 0, .int .i64 0, .int .i64 0, .int .i64 0, .int .i64 0]):=by unfold zeroB;kernel_rfl
theorem Ap6:aggB Tryz.prog 210 7=true:=by kernel_rfl
theorem Aic:Callable Tryz.prog 4:=⟨_,Tryz.func4,rfl,by decide⟩
theorem Aez:Callable Tryz.prog 13:=⟨_,Tryz.func13,rfl,by decide⟩
theorem Aey:Callable Tryz.prog 14:=⟨_,Tryz.func14,rfl,by decide⟩
theorem Aex:Callable Tryz.prog 15:=⟨_,Tryz.func15,rfl,by decide⟩
theorem Aew:Callable Tryz.prog 16:=⟨_,Tryz.func16,rfl,by decide⟩
theorem Aev:Callable Tryz.prog 18:=⟨_,Tryz.func18,rfl,by decide⟩
theorem Aeu:Callable Tryz.prog 19:=⟨_,Tryz.func19,rfl,by decide⟩
theorem Aet:Callable Tryz.prog 20:=⟨_,Tryz.func20,rfl,by decide⟩
theorem Aes:Callable Tryz.prog 21:=⟨_,Tryz.func21,rfl,by decide⟩
theorem Aer:Callable Tryz.prog 22:=⟨_,Tryz.func22,rfl,by decide⟩
theorem Aeq:Callable Tryz.prog 27:=⟨_,Tryz.func27,rfl,by decide⟩
theorem Aep:Callable Tryz.prog 30:=⟨_,Tryz.func30,rfl,by decide⟩
theorem Aeo:Callable Tryz.prog 32:=⟨_,Tryz.func32,rfl,by decide⟩
theorem Aen:Callable Tryz.prog 33:=⟨_,Tryz.func33,rfl,by decide⟩
theorem Aem:Callable Tryz.prog 36:=⟨_,Tryz.func36,rfl,by decide⟩
theorem Ael:Callable Tryz.prog 37:=⟨_,Tryz.func37,rfl,by decide⟩
theorem Aek:Callable Tryz.prog 38:=⟨_,Tryz.func38,rfl,by decide⟩
theorem Aej:Callable Tryz.prog 46:=⟨_,Tryz.func46,rfl,by decide⟩
theorem Aei:Callable Tryz.prog 47:=⟨_,Tryz.func47,rfl,by decide⟩
theorem Aeh:Callable Tryz.prog 48:=⟨_,Tryz.func48,rfl,by decide⟩
theorem Aeg:Callable Tryz.prog 49:=⟨_,Tryz.func49,rfl,by decide⟩
theorem Aef:Callable Tryz.prog 50:=⟨_,Tryz.func50,rfl,by decide⟩
theorem Aee:Callable Tryz.prog 51:=⟨_,Tryz.func51,rfl,by decide⟩
theorem Aed:Callable Tryz.prog 52:=⟨_,Tryz.func52,rfl,by decide⟩
theorem Aec:Callable Tryz.prog 53:=⟨_,Tryz.func53,rfl,by decide⟩
theorem Aeb:Callable Tryz.prog 55:=⟨_,Tryz.func55,rfl,by decide⟩
theorem Aea:Callable Tryz.prog 56:=⟨_,Tryz.func56,rfl,by decide⟩
theorem Ad9:Callable Tryz.prog 57:=⟨_,Tryz.func57,rfl,by decide⟩
theorem Ad8:Callable Tryz.prog 58:=⟨_,Tryz.func58,rfl,by decide⟩
theorem Ad7:Callable Tryz.prog 59:=⟨_,Tryz.func59,rfl,by decide⟩
theorem Ad6:Callable Tryz.prog 60:=⟨_,Tryz.func60,rfl,by decide⟩
theorem Ad5:Callable Tryz.prog 61:=⟨_,Tryz.func61,rfl,by decide⟩
theorem Ad4:Callable Tryz.prog 62:=⟨_,Tryz.func62,rfl,by decide⟩
theorem Sb:Callable Tryz.prog 63:=⟨_,Tryz.func63,rfl,by decide⟩
theorem Ad3:Callable Tryz.prog 64:=⟨_,Tryz.func64,rfl,by decide⟩
theorem Ad2:Callable Tryz.prog 65:=⟨_,Tryz.func65,rfl,by decide⟩
theorem Ad1:Callable Tryz.prog 66:=⟨_,Tryz.func66,rfl,by decide⟩
theorem Ad0:Callable Tryz.prog 67:=⟨_,Tryz.func67,rfl,by decide⟩
theorem Adz:Callable Tryz.prog 68:=⟨_,Tryz.func68,rfl,by decide⟩
theorem Ady:Callable Tryz.prog 69:=⟨_,Tryz.func69,rfl,by decide⟩
theorem Adx:Callable Tryz.prog 70:=⟨_,Tryz.func70,rfl,by decide⟩
theorem Adw:Callable Tryz.prog 71:=⟨_,Tryz.func71,rfl,by decide⟩
theorem Adv:Callable Tryz.prog 72:=⟨_,Tryz.func72,rfl,by decide⟩
theorem Adu:Callable Tryz.prog 73:=⟨_,Tryz.func73,rfl,by decide⟩
theorem Adt:Callable Tryz.prog 74:=⟨_,Tryz.func74,rfl,by decide⟩
theorem Ads:Callable Tryz.prog 75:=⟨_,Tryz.func75,rfl,by decide⟩
theorem Adr:Callable Tryz.prog 76:=⟨_,Tryz.func76,rfl,by decide⟩
theorem Adq:Callable Tryz.prog 77:=⟨_,Tryz.func77,rfl,by decide⟩
theorem Adp:Callable Tryz.prog 78:=⟨_,Tryz.func78,rfl,by decide⟩
theorem Ado:Callable Tryz.prog 79:=⟨_,Tryz.func79,rfl,by decide⟩
theorem Adn:Callable Tryz.prog 80:=⟨_,Tryz.func80,rfl,by decide⟩
theorem Adm:Callable Tryz.prog 81:=⟨_,Tryz.func81,rfl,by decide⟩
theorem Adl:Callable Tryz.prog 82:=⟨_,Tryz.func82,rfl,by decide⟩
theorem Adk:Callable Tryz.prog 84:=⟨_,Tryz.func84,rfl,by decide⟩
theorem Adj:Callable Tryz.prog 87:=⟨_,Tryz.func87,rfl,by decide⟩
theorem Adi:Callable Tryz.prog 88:=⟨_,Tryz.func88,rfl,by decide⟩
theorem Adh:Callable Tryz.prog 93:=⟨_,Tryz.func93,rfl,by decide⟩
theorem Adg:Callable Tryz.prog 94:=⟨_,Tryz.func94,rfl,by decide⟩
theorem Adf:Callable Tryz.prog 95:=⟨_,Tryz.func95,rfl,by decide⟩
theorem Ade:Callable Tryz.prog 96:=⟨_,Tryz.func96,rfl,by decide⟩
theorem Add:Callable Tryz.prog 97:=⟨_,Tryz.func97,rfl,by decide⟩
theorem Adc:Callable Tryz.prog 98:=⟨_,Tryz.func98,rfl,by decide⟩
theorem Adb:Callable Tryz.prog 99:=⟨_,Tryz.func99,rfl,by decide⟩
theorem Acd:Callable Tryz.prog 100:=⟨_,Tryz.func100,rfl,by decide⟩
theorem Acc:Callable Tryz.prog 101:=⟨_,Tryz.func101,rfl,by decide⟩
theorem Acb:Callable Tryz.prog 102:=⟨_,Tryz.func102,rfl,by decide⟩
theorem Aca:Callable Tryz.prog 103:=⟨_,Tryz.func103,rfl,by decide⟩
theorem Ab9:Callable Tryz.prog 104:=⟨_,Tryz.func104,rfl,by decide⟩
theorem Ab8:Callable Tryz.prog 105:=⟨_,Tryz.func105,rfl,by decide⟩
theorem Ab7:Callable Tryz.prog 106:=⟨_,Tryz.func106,rfl,by decide⟩
theorem Ab6:Callable Tryz.prog 107:=⟨_,Tryz.func107,rfl,by decide⟩
theorem Ab5:Callable Tryz.prog 108:=⟨_,Tryz.func108,rfl,by decide⟩
theorem Ab4:Callable Tryz.prog 109:=⟨_,Tryz.func109,rfl,by decide⟩
theorem Ab3:Callable Tryz.prog 110:=⟨_,Tryz.func110,rfl,by decide⟩
theorem Ab2:Callable Tryz.prog 111:=⟨_,Tryz.func111,rfl,by decide⟩
theorem Ab1:Callable Tryz.prog 112:=⟨_,Tryz.func112,rfl,by decide⟩
theorem Ab0:Callable Tryz.prog 113:=⟨_,Tryz.func113,rfl,by decide⟩
theorem Abz:Callable Tryz.prog 114:=⟨_,Tryz.func114,rfl,by decide⟩
theorem Aby:Callable Tryz.prog 115:=⟨_,Tryz.func115,rfl,by decide⟩
theorem Abx:Callable Tryz.prog 116:=⟨_,Tryz.func116,rfl,by decide⟩
theorem Abw:Callable Tryz.prog 117:=⟨_,Tryz.func117,rfl,by decide⟩
theorem Abv:Callable Tryz.prog 118:=⟨_,Tryz.func118,rfl,by decide⟩
theorem Abu:Callable Tryz.prog 119:=⟨_,Tryz.func119,rfl,by decide⟩
theorem Abt:Callable Tryz.prog 120:=⟨_,Tryz.func120,rfl,by decide⟩
theorem Abs:Callable Tryz.prog 121:=⟨_,Tryz.func121,rfl,by decide⟩
theorem Abr:Callable Tryz.prog 122:=⟨_,Tryz.func122,rfl,by decide⟩
theorem Abq:Callable Tryz.prog 123:=⟨_,Tryz.func123,rfl,by decide⟩
theorem Abp:Callable Tryz.prog 124:=⟨_,Tryz.func124,rfl,by decide⟩
theorem Abo:Callable Tryz.prog 125:=⟨_,Tryz.func125,rfl,by decide⟩
theorem Abn:Callable Tryz.prog 126:=⟨_,Tryz.func126,rfl,by decide⟩
theorem Abm:Callable Tryz.prog 127:=⟨_,Tryz.func127,rfl,by decide⟩
theorem Abl:Callable Tryz.prog 128:=⟨_,Tryz.func128,rfl,by decide⟩
theorem Abk:Callable Tryz.prog 130:=⟨_,Tryz.func130,rfl,by decide⟩
theorem Abj:Callable Tryz.prog 132:=⟨_,Tryz.func132,rfl,by decide⟩
theorem Abi:Callable Tryz.prog 133:=⟨_,Tryz.func133,rfl,by decide⟩
theorem Abh:Callable Tryz.prog 134:=⟨_,Tryz.func134,rfl,by decide⟩
theorem Abg:Callable Tryz.prog 138:=⟨_,Tryz.func138,rfl,by decide⟩
theorem Abf:Callable Tryz.prog 139:=⟨_,Tryz.func139,rfl,by decide⟩
theorem Abe:Callable Tryz.prog 140:=⟨_,Tryz.func140,rfl,by decide⟩
theorem Abd:Callable Tryz.prog 141:=⟨_,Tryz.func141,rfl,by decide⟩
theorem Abc:Callable Tryz.prog 142:=⟨_,Tryz.func142,rfl,by decide⟩
theorem Abb:Callable Tryz.prog 143:=⟨_,Tryz.func143,rfl,by decide⟩
theorem Aba:Callable Tryz.prog 144:=⟨_,Tryz.func144,rfl,by decide⟩
theorem Aa9:Callable Tryz.prog 145:=⟨_,Tryz.func145,rfl,by decide⟩
theorem Aa8:Callable Tryz.prog 146:=⟨_,Tryz.func146,rfl,by decide⟩
theorem Aa7:Callable Tryz.prog 147:=⟨_,Tryz.func147,rfl,by decide⟩
theorem Aa6:Callable Tryz.prog 148:=⟨_,Tryz.func148,rfl,by decide⟩
theorem Aa5:Callable Tryz.prog 149:=⟨_,Tryz.func149,rfl,by decide⟩
theorem Aa4:Callable Tryz.prog 150:=⟨_,Tryz.func150,rfl,by decide⟩
theorem Aa3:Callable Tryz.prog 151:=⟨_,Tryz.func151,rfl,by decide⟩
theorem Aa2:Callable Tryz.prog 152:=⟨_,Tryz.func152,rfl,by decide⟩
theorem Aa1:Callable Tryz.prog 153:=⟨_,Tryz.func153,rfl,by decide⟩
theorem Aa0:Callable Tryz.prog 154:=⟨_,Tryz.func154,rfl,by decide⟩
theorem Aaz:Callable Tryz.prog 155:=⟨_,Tryz.func155,rfl,by decide⟩
theorem Aay:Callable Tryz.prog 156:=⟨_,Tryz.func156,rfl,by decide⟩
theorem Aax:Callable Tryz.prog 157:=⟨_,Tryz.func157,rfl,by decide⟩
theorem Aaw:Callable Tryz.prog 158:=⟨_,Tryz.func158,rfl,by decide⟩
theorem Aav:Callable Tryz.prog 159:=⟨_,Tryz.func159,rfl,by decide⟩
theorem Aau:Callable Tryz.prog 160:=⟨_,Tryz.func160,rfl,by decide⟩
theorem Aat:Callable Tryz.prog 161:=⟨_,Tryz.func161,rfl,by decide⟩
theorem Aas:Callable Tryz.prog 162:=⟨_,Tryz.func162,rfl,by decide⟩
theorem Aar:Callable Tryz.prog 163:=⟨_,Tryz.func163,rfl,by decide⟩
theorem Aaq:Callable Tryz.prog 164:=⟨_,Tryz.func164,rfl,by decide⟩
theorem Q3:Callable Tryz.prog 165:=⟨_,Tryz.func165,rfl,by decide⟩
theorem Aap:Callable Tryz.prog 166:=⟨_,Tryz.func166,rfl,by decide⟩
theorem Aao:Callable Tryz.prog 167:=⟨_,Tryz.func167,rfl,by decide⟩
theorem Aan:Callable Tryz.prog 168:=⟨_,Tryz.func168,rfl,by decide⟩
theorem Aam:Callable Tryz.prog 170:=⟨_,Tryz.func170,rfl,by decide⟩
theorem Aal:Callable Tryz.prog 171:=⟨_,Tryz.func171,rfl,by decide⟩
theorem Aak:Callable Tryz.prog 172:=⟨_,Tryz.func172,rfl,by decide⟩
theorem Aaj:Callable Tryz.prog 173:=⟨_,Tryz.func173,rfl,by decide⟩
theorem Aai:Callable Tryz.prog 174:=⟨_,Tryz.func174,rfl,by decide⟩
theorem Aah:Callable Tryz.prog 175:=⟨_,Tryz.func175,rfl,by decide⟩
theorem Aag:Callable Tryz.prog 176:=⟨_,Tryz.func176,rfl,by decide⟩
theorem Aaf:Callable Tryz.prog 177:=⟨_,Tryz.func177,rfl,by decide⟩
theorem Aae:Callable Tryz.prog 178:=⟨_,Tryz.func178,rfl,by decide⟩
theorem Aad:Callable Tryz.prog 179:=⟨_,Tryz.func179,rfl,by decide⟩
theorem Aac:Callable Tryz.prog 180:=⟨_,Tryz.func180,rfl,by decide⟩
theorem Aab:Callable Tryz.prog 181:=⟨_,Tryz.func181,rfl,by decide⟩
theorem Aaa:Callable Tryz.prog 183:=⟨_,Tryz.func183,rfl,by decide⟩
theorem Z9:Callable Tryz.prog 184:=⟨_,Tryz.func184,rfl,by decide⟩
theorem Z8:Callable Tryz.prog 185:=⟨_,Tryz.func185,rfl,by decide⟩
theorem Z7:Callable Tryz.prog 186:=⟨_,Tryz.func186,rfl,by decide⟩
theorem Z6:Callable Tryz.prog 187:=⟨_,Tryz.func187,rfl,by decide⟩
theorem Z5:Callable Tryz.prog 188:=⟨_,Tryz.func188,rfl,by decide⟩
theorem Z4:Callable Tryz.prog 189:=⟨_,Tryz.func189,rfl,by decide⟩
theorem Z3:Callable Tryz.prog 190:=⟨_,Tryz.func190,rfl,by decide⟩
theorem Z2:Callable Tryz.prog 191:=⟨_,Tryz.func191,rfl,by decide⟩
theorem Z1:Callable Tryz.prog 192:=⟨_,Tryz.func192,rfl,by decide⟩
end Go.Proofs.YtcihalbakenleaaGreat
namespace Go.Proofs.YtcihalbakenleaaGreat
open Go.RowKit
section
variable {P:Program} {n:Nat} {ops:Array Oper} {rest:List Oper} {K:D3} {f:Fr} {h:Xh} {o:Oper} {e:Operand→S} {α:Type}
theorem XL.len {t el:TypeId} {x:Operand} {sz:Nat} {g:α→List D} {l:List α} (ho:o.op= .call {callee:= .builtin .len,args:= #[x],argTypes:= #[t]}) (hw:Cd ops f n o.guard=some true) (hx:ev f x= .d (.sl sz (l.map g))) (hu:P.underlying t=some (.slice el))
  (hr:l.length≤9223372036854775807→XL P n ops rest K (Bw f o.dst (.d (.v (.int .i64 (l.length:Nat))))) h):XL P n ops (o::rest) K f h:=by
 refine XL.stepR (f':=f) (h':=h) (R:=fun s=>s= .d (.v (.int .i64 (l.length:Nat)))∧l.length≤9223372036854775807) hw (fun E H β a w hs hf hop=> ?_) (by rintro s ⟨rfl,h⟩;exact hr h)
 have g1:=hop x (by rw [ho];simp [Op.operands,Call.operands])
 rw [hx] at g1
 obtain ⟨A,c,h1,h2,h3,_⟩:=Q8 (Ey g1)
 have hrun:=Rj (P:=P) ho hu h1 w
 unfold Oper.wp
 rw [hrun]
 rw [List.length_map] at h2
 exact ⟨H,β,_,_,rfl,hs,hf, .d (.v _),by rw [List.length_map],by unfold maxLen at h3;omega⟩
theorem Pi {t m sz:Nat} {el:TypeId} {parts:Array (Nat × Operand)} {z:Value} {r:List S} (ho:o.op= .build t parts) (hu:P.underlying t=some (.array m el)) (hs:sizeB P el sz=true) (hz:zeroB P t z) (hr:N2 h (fun i=>some (i*sz,sz)) e (z.cells.toList.map fun x=> .d (.v x)) parts.toList=some r):
  Bm P o e h (.agg r):=fun E H β ρ w hsim hop=>by
 have hc0 : CellsAt H β z.cells (z.cells.toList.map fun x => .d (.v x)) := ⟨by simp, fun j v s hj hs' => by
  rw [List.getElem?_map,Array.getElem?_toList,hj] at hs'
  cases hs'
  exact .d (.v _)⟩
 obtain ⟨ys,y1,y2⟩:=Lt hsim (ρ:=ρ) parts.toList _ r z.cells hc0 (fun x hx=>hop x (by rw [ho];simpa [Op.operands] using hx)) hr
 refine ⟨.agg ys, ?_, .agg ys r y2.1 y2.2⟩
 have hfl:(parts.map fun (i,x)=>(i,ρ x)).toList=parts.toList.map fun (i,x)=>(i,ρ x):=by simp
 unfold execOp
 simp only [ho,Instr.build,Sem.run_bind,zeroB.run hz,Result.andThen_ok,run_underlying hu,sizeB.run hs,hfl,y1,Sem.run_pure]
theorem Wa {t m k:Nat} {x y:Operand} {l:List D} {d:D} {el:TypeId} {ik:IntKind} {a:Int} (ho:o.op= .index t x y) (hx:e x= .d (.agg l)) (hy:e y= .d (.v (.int ik a))) (ha:a=(k:Int)) (hu:P.underlying t=some (.array m el)) (hs:scB P el=true) (h1:sizeB P el 1=true) (hk:k<m) (hd:l[k]? =some d):Bm P o e h (.d d):=by
 subst ha;exact Al4 ho hx hy hu hs h1 hk hd
theorem Qj {t el:TypeId} {x:Operand} {sz:Nat} {g:α→List D} {l:List α} (ho:o.op= .call {callee:= .builtin .len,args:= #[x],argTypes:= #[t]}) (hx:e x= .d (.sl sz (l.map g))) (hu:P.underlying t=some (.slice el)):Bm P o e h (.d (.v (.int .i64 (l.length:Nat)))):=by
 have:=Asi (P:=P) (h:=h) ho hx hu
 rwa [List.length_map] at this
theorem Ci {t el:TypeId} {x:Operand} {i sz:Nat} {ty:TypeId} {g:α→List D} {l:List α} (ho:o.op= .call {callee:= .builtin .len,args:= #[x],argTypes:= #[t]}) (hx:e x= .own i) (hi:h i=some (.row ty sz (l.map g))) (hu:P.underlying t=some (.slice el)):Bm P o e h (.d (.v (.int .i64 (l.length:Nat)))):=by
 have:=Ajm (P:=P) ho hx hi hu
 rwa [List.length_map] at this
theorem Aj {t sz:Nat} {x y:Operand} {g:α→List D} {l:List α} {a:α} {k:Nat} {ik:IntKind} (ho:o.op= .indexAddr t x y) (hx:e x= .d (.sl sz (l.map g))) (hy:e y= .d (.v (.int ik k))) (hf:elB P t sz=true) (hk:l[k]? =some a):Bm P o e h (.d (.pt (g a))):=
 Al5 ho hx hy hf (by rw [List.getElem?_map,hk];rfl)
theorem Kp {t sz:Nat} {x y:Operand} {i k:Nat} {ik:IntKind} {ty:TypeId} {g:α→List D} {l:List α} (ho:o.op= .indexAddr t x y) (hx:e x= .own i) (hy:e y= .d (.v (.int ik k))) (hi:h i=some (.row ty sz (l.map g))) (hf:elB P t sz=true) (hk:k<l.length):Bm P o e h (.ptr i k 0):=
 Ajn ho hx hy hi hf (by rw [List.length_map];exact hk)
theorem Dl {t sz:Nat} {x y:Operand} {g:α→List D} {l:List α} {b:α} {k:Nat} {ik:IntKind} {a:Int} (ho:o.op= .indexAddr t x y) (hx:e x= .d (.sl sz (l.map g))) (hy:e y= .d (.v (.int ik a))) (ha:a=(k:Int)) (hf:elB P t sz=true) (hk:l[k]? =some b):Bm P o e h (.d (.pt (g b))):=by
 subst ha;exact Aj ho hx hy hf hk
theorem Ep {t sz:Nat} {x y:Operand} {i k:Nat} {ik:IntKind} {a:Int} {ty:TypeId} {g:α→List D} {l:List α} (ho:o.op= .indexAddr t x y) (hx:e x= .own i) (hy:e y= .d (.v (.int ik a))) (ha:a=(k:Int)) (hi:h i=some (.row ty sz (l.map g))) (hf:elB P t sz=true) (hk:k<l.length):Bm P o e h (.ptr i k 0):=by
 subst ha;exact Kp ho hx hy hi hf hk
theorem F8 {t sz:Nat} {x:Operand} {lo hi:Option Operand} {g:α→List D} {l:List α} {a b:Nat} (ho:o.op= .slice t x lo hi none) (hx:e x= .d (.sl sz (l.map g))) (hf:elB P t sz=true)
  (hlo:Bd e lo 0 a) (hhi:Bd e hi l.length b) (hab:a≤b) (hb:b≤l.length):Bm P o e h (.d (.sl sz (((l.take b).drop a).map g))):=by
 have:=Apa (P:=P) (h:=h) ho hx hf hlo (b:=b) (by rw [List.length_map];exact hhi) hab (by rw [List.length_map];exact hb)
 rwa [←List.map_take, ←List.map_drop] at this
theorem Afr {g:α→List D} {l l':List α}:l.map g++l'.map g=(l++l').map g:=by rw [List.map_append]
end
def ChK (P:Program) (n:Nat) (ops:Array Oper) (rest:List Oper) (f:Fr) (h:Xh) (acc:List (List Nat × S)) (G:List (List Nat × S)→Fr→Xh→Prop):Prop:=∃L f' h',Ch P n ops rest f h L f' h'∧G (acc++L) f' h'
section
variable {P:Program} {n:Nat} {ops:Array Oper} {rest:List Oper} {f:Fr} {h h1:Xh} {o:Oper} {s:S} {ids:List Nat} {acc:List (List Nat × S)} {G:List (List Nat × S)→Fr→Xh→Prop}
theorem ChK.nil (hg:G acc f h):ChK P n ops [] f h acc G:=⟨[],f,h, .nil _ _,by rw [List.append_nil];exact hg⟩
theorem ChK.cons (hw:Cd ops f n o.guard=some true) (hc:CStep P o f h ids s h1) (hr:ChK P n ops rest (Bw f o.dst s) h1 (acc++ [(ids,s)]) G):ChK P n ops (o::rest) f h acc G:=by
 obtain ⟨L,f',h',k1,k2⟩:=hr
 exact ⟨(ids,s)::L,f',h', .cons hw hc k1,by rw [List.append_assoc] at k2;exact k2⟩
theorem ChK.skip (hw:Cd ops f n o.guard=some false) (hr:ChK P n ops rest (Bw f o.dst (.d (.v undef))) h (acc++ [([], .d (.v undef))]) G):ChK P n ops (o::rest) f h acc G:=by
 obtain ⟨L,f',h',k1,k2⟩:=hr
 exact ⟨_::L,f',h', .skip hw k1,by rw [List.append_assoc] at k2;exact k2⟩
theorem A8 {id:Nat} {l:List Oper} {K:D3} (sites:List Nat) (hm:P.follows .mixedOrders=true) (hin:l.all (inN n)=true) (hreg:Lx l.toArray l=true) (hnd:sites.Nodup)
  (hc:ChK P n l.toArray l (Fc f sites) (Fl h sites) [] (fun L f' h'=>L.flatMap (·.1)=sites∧K .normal f' h')):XW P n (.region id l.toArray true) K f h:=by
 obtain ⟨L,f',h',k1,k2,k3⟩:=hc
 exact An5 sites hm hin hreg k1 k2 hnd k3
end
theorem E7 {e:TypeId} {sz:Nat} {α:Type} {g:α→List D} {l l':List α} {a:α} {ds:List D} (hd:ds=g a) (hl:l'=l++ [a]):some (XO.row e sz (l.map g++ [ds]))=some (XO.row e sz (l'.map g)):=by rw [hl,hd,List.map_append];rfl
theorem Ec {e:TypeId} {sz:Nat} {α:Type} {g:α→List D} {l l' m:List α} (hl:l'=l++m):some (XO.row e sz (l.map g++m.map g))=some (XO.row e sz (l'.map g)):=by rw [hl,List.map_append]
theorem Bb {α:Type} {l:List α} {k:Nat} {x:α} (h:l[k]? =some x):l.take (k+1)=l.take k++ [x]:=by rw [List.take_add_one,h,Option.toList_some]
theorem rI {a b:Int} (h:a=b):D.v (.int .i64 a)= .v (.int .i64 b):=by rw [h]
theorem rB {a b:Bool} (h:a=b):D.v (.bool a)= .v (.bool b):=by rw [h]
theorem sI {a b:Int} (h:a=b):S.d (.v (.int .i64 a))= .d (.v (.int .i64 b)):=by rw [h]
theorem sB {a b:Bool} (h:a=b):S.d (.v (.bool a))= .d (.v (.bool b)):=by rw [h]
theorem r2 {a b a' b':D} (h:a=a') (h':b=b'):D.tup [a,b]= .tup [a',b']:=by rw [h,h']
theorem r3 {a b c a' b' c':D} (h:a=a') (h':b=b') (h'':c=c'):D.tup [a,b,c]= .tup [a',b',c']:=by rw [h,h',h'']
theorem rSl {sz:Nat} {α:Type} {g:α→List D} {l l':List α} (h:l=l'):D.sl sz (l.map g)= .sl sz (l'.map g):=by rw [h]
theorem Aqp {e:TypeId} {sz:Nat} {α:Type} {g:α→List D} {l l':List α} (h:l=l'):some (XO.row e sz (l.map g))=some (XO.row e sz (l'.map g)):=by rw [h]
end Go.Proofs.YtcihalbakenleaaGreat
namespace Go.Proofs.YtcihalbakenleaaGreat
open Go.RowKit
mutual
inductive DSub:D→D→Prop where
  |same {d d':D} (h:d=d'):DSub d d'
  |nil (sz:Nat):DSub (.v (.slice none 0 0)) (.sl sz [])
  |agg {l l':List D} (h:DSubL l l'):DSub (.agg l) (.agg l')
inductive DSubL:List D→List D→Prop where
  |nil:DSubL [] []
  |cons {d d':D} {l l':List D} (h:DSub d d') (hl:DSubL l l'):DSubL (d::l) (d'::l')
end
theorem DSubL.length:∀{l l':List D},DSubL l l'→l.length=l'.length
  |_,_, .nil=>rfl
  |_,_, .cons _ hl=>by simp [hl.length]
theorem DSubL.get:∀{l l':List D},DSubL l l'→∀{i:Nat} {d':D},l'[i]? =some d'→∃d,l[i]? =some d∧DSub d d'
  |_,_, .cons h _,0,_,e=>by simp at e;subst e;exact ⟨_,rfl,h⟩
  |_,_, .cons _ hl,i+1,d',e=>by
    obtain ⟨d,h1,h2⟩:=hl.get (i:=i) (d':=d') (by simpa using e)
    exact ⟨d,by simpa using h1,h2⟩
mutual
theorem DSub.vd:∀{d d':D},DSub d d'→∀{H:Hp} {u:Value},VD H u d→VD H u d'
  |_,_, .same h,_,_,hv=>by subst h;exact hv
  |_,_, .nil sz,_,_,hv=>by rw [Uu hv];exact .emp none 0 sz (fun _=>rfl) (Nat.zero_le _)
  |_,_, .agg h,H,u,hv=>by
    obtain ⟨cs,rfl,h1,h2⟩:=Tg hv
    refine .agg cs _ (h1.trans h.length) fun i x d' hx hd=> ?_
    exact DSubL.vd h hd fun d hd'=>h2 i x d hx hd'
theorem DSubL.vd:∀{l l':List D},DSubL l l'→∀{i:Nat} {d':D},l'[i]? =some d'→∀{H:Hp} {x:Value},(∀d,l[i]? =some d→VD H x d)→VD H x d'
  |_,_, .cons h _,0,_,e,_,_,hv=>by simp at e;subst e;exact h.vd (hv _ rfl)
  |_,_, .cons _ hl,i+1,d',e,_,_,hv=>DSubL.vd hl (i:=i) (by simpa using e) fun d hd=>hv d (by simpa using hd)
end
theorem RV.sub {P:Program} {n:Nat} {f:Fr} {h:Xh} {rv:ResultVar} {d d':D} (hr:RV P n f h rv d) (hs:DSub d d'):RV P n f h rv d':=fun E H β a w h1 h2=>by
  obtain ⟨u,e,v⟩:=hr E H β a w h1 h2
  exact ⟨u,e,hs.vd v⟩
inductive AS (f:Fr):List Operand→List D→Prop where
  |nil:AS f [] []
  |cons {x:Operand} {l:List Operand} {d d':D} {ds:List D} (hx:ev f x= .d d) (hs:DSub d d') (hl:AS f l ds):AS f (x::l) (d'::ds)
theorem AS.len {f:Fr} {l:List Operand} {ds:List D} (h:AS f l ds):l.length=ds.length:=by
  induction h with
  |nil=>rfl
  |cons _ _ _ ih=>simp [ih]
theorem AS.get {f:Fr} {l:List Operand} {ds:List D} (h:AS f l ds):∀{i:Nat} {x:Operand} {d:D},l[i]? =some x→ds[i]? =some d→∃d0,ev f x= .d d0∧DSub d0 d:=by
  induction h with
  |nil=>intro i x d h;simp at h
  | @cons x l d d' ds hx hs _ ih=>
    intro i y e h1 h2
    cases i with
    |zero=>simp at h1 h2;subst h1 h2;exact ⟨d,hx,hs⟩
    |succ i=>exact ih (by simpa using h1) (by simpa using h2)
theorem AS.vd {f:Fr} {H:Hp} {β:Bt} {a:Act} {args:Array Operand} {ds:List D} (ha:AS f args.toList ds) (hv:∀x∈args,VS H β (a.eval x) (ev f x)):
    (args.map a.eval).size=ds.length∧∀(i:Nat) (x:Value) (d:D),(args.map a.eval)[i]? =some x→ds[i]? =some d→VD H x d:=by
  have hl:=ha.len
  rw [Array.length_toList] at hl
  refine ⟨by simpa using hl,fun i x d hx hd=> ?_⟩
  have hi:i<args.size:=by have:=(List.getElem?_eq_some_iff.1 hd).1;omega
  have hx':x=a.eval args[i]:=by
    rw [Array.getElem?_map,Array.getElem?_eq_getElem hi] at hx
    simpa using hx.symm
  obtain ⟨d0,h1,h2⟩:=ha.get (i:=i) (x:=args[i]) (by rw [Array.getElem?_toList,Array.getElem?_eq_getElem hi]) hd
  have:=hv args[i] (Array.getElem_mem hi)
  rw [h1] at this
  rw [hx']
  exact h2.vd (Ey this)
section
variable {P:Program} {n:Nat} {ops:Array Oper} {rest:List Oper} {K:D3} {f:Fr} {h:Xh} {o:Oper} {F:FuncId} {ds:List D} {args:Array Operand} {tys:Array TypeId} {r:D}
theorem XL.calls (ho:o.op= .call {callee:= .value (.func F),args:=args,argTypes:=tys}) (hw:Cd ops f n o.guard=some true) (hx:XC P F ds (fun d=>d=r))
    (ha:AS f args.toList ds) (hr:XL P n ops rest K (Bw f o.dst (.d r)) h):XL P n ops (o::rest) K f h:=by
  refine XL.stepR (f':=f) (h':=h) (R:=fun s=>s= .d r) hw (fun E H β a w hs hf hop=> ?_) (by rintro s rfl;exact hr)
  have hop':∀x∈args,VS H β (a.eval x) (ev f x):=fun x hx=>hop x (by rw [ho];simp [Op.operands,Call.operands,hx])
  obtain ⟨hsz,hvd⟩:=ha.vd hop'
  have hrun:(execOp a.eval o).run P w= .ok (.enter F (args.map a.eval)) w:=by
    have:=hx.callable.run (args.map a.eval) w
    unfold execOp
    simp only [ho,resolve,Act.eval,Deferred.ofValue,Sem.run_bind,Sem.run_pure,Result.andThen_ok,invoke,Array.append_empty,Array.empty_append]
    exact this
  unfold Oper.wp
  rw [hrun]
  refine (hx.calls H w _ hs.imm hsz hvd).mono ?_
  rintro e w' ⟨H',u,r',rfl,rfl,hle,hnew,him,hb,hu⟩
  exact ⟨H',β,u, .d r',rfl,hs.call hb hle hnew him,hf.mono hle (fun _ _ h=>h), .d hu,rfl⟩
theorem CStep.calls (ho:o.op= .call {callee:= .value (.func F),args:=args,argTypes:=tys}) (hx:XC P F ds (fun d=>d=r)) (ha:AS f args.toList ds):CStep P o f h [] (.d r) h:=
  ⟨HLe.refl _, fun _ _ e => .inl e, fun hF hle E H β a w hs _ hop => by
    have hop':∀x∈args,VS H β (a.eval x) (ev f x):=fun x hx=>hop x (by rw [ho];simp [Op.operands,Call.operands,hx])
    obtain ⟨hsz,hvd⟩:=ha.vd hop'
    have hrun:(execOp a.eval o).run P w= .ok (.enter F (args.map a.eval)) w:=by
      have:=hx.callable.run (args.map a.eval) w
      unfold execOp
      simp only [ho,resolve,Act.eval,Deferred.ofValue,Sem.run_bind,Sem.run_pure,Result.andThen_ok,invoke,Array.append_empty,Array.empty_append]
      exact this
    unfold Oper.wp
    rw [hrun]
    refine (hx.calls H w _ hs.imm hsz hvd).mono ?_
    rintro e w' ⟨H',u,r',rfl,rfl,hle',hnew,him,hb,hu⟩
    exact ⟨H', β, u, rfl, hs.call hb hle' hnew him, hle', fun _ _ h => h, fun _ _ => rfl, .d hu⟩⟩
theorem OKo.sub {base:Nat} {w:World} {H:Hp} {β:Bt} {L:Loc} {e:TypeId} {sz:Nat} {l l':List (List D)} (hk:OKo base w H β L (.row e sz l)) (hl:l.length=l'.length) (hs:∀(k:Nat) (x x':List D),l[k]? =some x→l'[k]? =some x'→DSubL x x'):OKo base w H β L (.row e sz l'):=by
  obtain ⟨h0,hz,hv,us,h2,h3,h4⟩:=hk
  have hget:∀(k:Nat) (x':List D),l'[k]? =some x'→∃x,l[k]? =some x∧DSubL x x':=fun k x' hx'=>by
    have hk:k<l.length:=by rw [hl];exact (List.getElem?_eq_some_iff.1 hx').1
    exact ⟨_,List.getElem?_eq_getElem hk,hs k _ x' (List.getElem?_eq_getElem hk) hx'⟩
  refine ⟨h0,fun x' hx'=> ?_,hv,us,by rw [←hl];exact h2,h3,fun k j x' d' hx' hd'=> ?_⟩
  · obtain ⟨k,hk⟩:=List.getElem?_of_mem hx'
    obtain ⟨x,h1,h2⟩:=hget k x' hk
    rw [←h2.length]
    exact hz x (List.mem_of_getElem? h1)
  · obtain ⟨x,h1,h2⟩:=hget k x' hx'
    obtain ⟨d,h5,h6⟩:=h2.get hd'
    obtain ⟨u,h7,h8⟩:=h4 k j x d h1 h5
    exact ⟨u,h7,h6.vd h8⟩
theorem Sim.rowsub {E:Env} {H:Hp} {β:Bt} {w:World} (s:Sim E H β h w) {i:Nat} {e:TypeId} {sz:Nat} {l l':List (List D)} (hi:h i=some (.row e sz l)) (hl:l.length=l'.length) (hs:∀(k:Nat) (x x':List D),l[k]? =some x→l'[k]? =some x'→DSubL x x'):
    Sim E H β (h.set i (.row e sz l')) w:=by
  have aux:∀j o L,h.set i (.row e sz l') j=some o→β j=some L→∃o',h j=some o'∧o.blk L=o'.blk L∧(OKo E.w.heap.size w H β L o'→OKo E.w.heap.size w H β L o):=by
    intro j o L ho hL
    by_cases e':i=j
    · subst e'
      rw [Xh.set_same] at ho
      cases ho
      exact ⟨_,hi,rfl,fun hk=>hk.sub hl hs⟩
    · rw [Xh.set_ne _ _ e'] at ho
      exact ⟨o,ho,rfl,fun hk=>hk⟩
  refine ⟨s.below,s.ext,s.new,s.imm,fun j o L ho hL=> ?_,fun j o L ho hL b hb=> ?_,fun j j' o o' L L' b hjj ho ho' hL hL' hb=> ?_,fun j o ho hg=> ?_⟩
  rotate_left 3
  · by_cases e':i=j
    · subst e';rw [Xh.set_same] at ho;cases ho;cases hg
    · rw [Xh.set_ne _ _ e'] at ho;exact s.dom j o ho hg
  · obtain ⟨o',h1,_,h3⟩:=aux j o L ho hL
    exact h3 (s.obj j o' L h1 hL)
  · obtain ⟨o',h1,h2,_⟩:=aux j o L ho hL
    rw [h2] at hb
    exact s.sep j o' L h1 hL b hb
  · obtain ⟨o1,h1,h2,_⟩:=aux j o L ho hL
    obtain ⟨o2,h3,h4,_⟩:=aux j' o' L' ho' hL'
    rw [h2] at hb
    rw [h4]
    exact s.inj j j' o1 o2 L L' b hjj h1 h3 hL hL' hb
theorem XL.row1 {i:Nat} {e:TypeId} {sz:Nat} {x x':List D} (hi:h i=some (.row e sz [x])) (hs:DSubL x x') (hr:XL P n ops rest K f (h.set i (.row e sz [x']))):XL P n ops rest K f h:=fun hin E H β a w h1 h2=>
  hr hin E H β a w (h1.rowsub hi rfl fun k y y' e1 e2 => by
    match k with
    |0=>simp at e1 e2;subst e1 e2;exact hs
    | k + 1 => simp at e1) h2
end
theorem Tr {P:Program} {o:Oper} {f:Fr} {h:Xh} {E:Env} {H:Hp} {β:Bt} {a:Act} {w:World} {t ty:TypeId} {sz len:Nat} {parts:Array (Nat × Operand)} {z:Value} {l:List (List D)} (ho:o.op= .buildSlice t len parts) (hu:P.underlying t=some (.slice ty)) (hsz:sizeB P ty sz=true) (hz:zeroB P ty z)
    (hr:Gx h (ev f) sz parts.toList=some l) (hlen:parts.toList.map (·.1)=List.range len) (hpos:0<sz) (hmax:len*sz≤16777216) {hF:Xh} (hle:HLe h hF) (hs:Sim E H β hF w) (hop:∀x∈o.op.operands,VS H β (a.eval x) (ev f x)):
    ∃(u:Value) (H':Hp) (w':World),(execOp a.eval o).run P w= .ok (.value u) w'∧Sim E H' β hF w'∧H.le H'∧VD H' u (.sl sz l):=by
  have hpl:parts.toList.length=len:=by have:=congrArg List.length hlen;simpa using this
  have hcells0:CellsAt H β ((Array.range (len*sz)).map (z.cells[· % z.cells.size]!)) ((List.range (len*sz)).map fun j=> .d (.v (z.cells[j % z.cells.size]!))):=by
    refine ⟨by simp,fun j v s hj hs'=> ?_⟩
    rw [List.getElem?_map] at hs'
    rw [Array.getElem?_map] at hj
    by_cases hlt:j<len*sz
    · rw [List.getElem?_range hlt] at hs'
      have:(Array.range (len*sz))[j]? =some j:=by simp [hlt]
      rw [this] at hj
      cases hj;cases hs'
      exact .d (.v _)
    · rw [List.getElem?_eq_none (by simpa using hlt)] at hs';cases hs'
  have mono:∀(ps:List (Nat × Operand)) (l:List (List D)),Gx h (ev f) sz ps=some l→Gx hF (ev f) sz ps=some l:=by
    intro ps
    induction ps with
    |nil=>intro l h;exact h
    |cons q ps ih=>
      obtain ⟨i,x⟩:=q
      intro l hl
      unfold Gx at hl ⊢
      cases hc:Fo h (ev f x) with
      |none=>rw [hc] at hl;cases hl
      |some cs=>
        rw [hc] at hl
        rw [Sa hle hc]
        simp only at hl ⊢
        cases hd:Jp cs with
        |none=>rw [hd] at hl;cases hl
        |some ds=>
          rw [hd] at hl
          simp only at hl ⊢
          cases hr:Gx h (ev f) sz ps with
          |none=>rw [hr] at hl;cases hl
          |some l'=>rw [hr] at hl;rw [ih l' hr];exact hl
  have hr':=mono _ _ hr
  obtain ⟨r1,r2,r3⟩:=Ob parts.toList l 0 ((List.range (len*sz)).map fun j=>S.d (.v (z.cells[j % z.cells.size]!))) hr' (by rw [hlen,hpl,List.range_eq_range']) (by simp [hpl])
  obtain ⟨ys,y1,y2⟩:=Lt hs (ρ:=a.eval) parts.toList _ _ _ hcells0 (fun x hx=>hop x (by rw [ho];simpa [Op.operands] using hx)) r3
  have hll:l.length=len:=by rw [r2,hpl]
  rw [Nat.zero_mul,List.take_zero,List.nil_append] at y2
  have hysz:ys.size=len*sz:=by rw [y2.1,List.length_map,F4 r1,hll]
  have hrun:(execOp a.eval o).run P w= .ok (.value (.slice (some ⟨w.heap.size,0,none⟩) l.length len)) (w.alloc (.cells ys ty)):=by
    have hfl:(parts.map fun (i,x)=>(i,a.eval x)).toList=parts.toList.map fun (i,x)=>(i,a.eval x):=by simp
    unfold execOp
    simp only [ho,Instr.buildSlice,Sem.run_bind,run_underlying hu,Result.andThen_ok,sizeB.run hsz,show ¬len*sz>2 ^ 24 by omega,if_false,Sem.run_pure]
    by_cases h0:len*sz=0
    · have hl0:len=0:=by
        rcases Nat.mul_eq_zero.1 h0 with h|h
        · exact h
        · omega
      subst hl0
      have hp0:parts.toList= []:=List.eq_nil_of_length_eq_zero hpl
      have hys:ys= #[]:=Array.eq_empty_of_size_eq_zero (by rw [hysz];simp)
      simp only [h0,if_true,Sem.run_pure,Result.andThen_ok,hfl,hp0,List.map_nil,Instr.fill,newRow,Sem.run_bind,run_newObj,World.alloc_eq,hll,hys,Tz]
    · simp only [h0,if_false,Sem.run_bind,zeroB.run hz,Result.andThen_ok,Sem.run_pure,hfl,y1,newRow,run_newObj,World.alloc_eq,hll]
  have hone:∀u∈ys,u.oneCell'=true:=fun u hu=>by
    obtain ⟨j,hj⟩:=Array.getElem?_of_mem hu
    have hjl:=(Array.getElem?_eq_some_iff.1 hj).1
    have hd:∃d,l.flatten[j]? =some d:=⟨_,List.getElem?_eq_getElem (by rw [F4 r1,hll, ←hysz];exact hjl)⟩
    obtain ⟨d,hd⟩:=hd
    have:=y2.2 j u (.d d) hj (by rw [List.getElem?_map,hd];rfl)
    exact Tf (Ey this) (So hr' d (List.mem_of_getElem? hd))
  have hnone:∀off,H w.heap.size off=none:=fun off=>by
    cases e:H w.heap.size off with
    |none=>rfl
    |some u=>have:=hs.imm.lt e;omega
  have hbel:Below w.heap.size w (w.alloc (.cells ys ty)):=(Below.refl _ _).alloc (Nat.le_refl _) _
  have him:Imm (H.plus w.heap.size (ys[·]?)) (w.alloc (.cells ys ty)):=fun b k u e=>by
    rcases Hp.plus_new e with k1|⟨rfl,k2⟩
    · exact (hs.imm.below hbel) b k u k1
    · exact ⟨by rw [World.cell?_alloc_new];exact k2,hone u (Array.mem_of_getElem? k2)⟩
  have hsim := hs.call hbel (Hp.plus_le H w.heap.size (ys[·]?)) (fun b k u e => by
    rcases Hp.plus_new e with k1|⟨rfl,_⟩
    · exact .inl k1
    · exact .inr (Nat.le_refl _)) him
  refine ⟨_,_,_,hrun,hsim,Hp.plus_le _ _ _, ?_⟩
  by_cases h0:l= []
  · subst h0
    exact .emp _ _ _ (fun h=>by cases h) (by have:len=0:=(by rw [←hll];rfl);unfold maxLen;omega)
  · have hget:∀(k j:Nat) (x:List D) (d:D),l[k]? =some x→x[j]? =some d→ys[0+(k*sz+j)]? =some ((ys[k*sz+j]?).getD undef)∧VD H ((ys[k*sz+j]?).getD undef) d:=by
      intro k j x d hk hj
      have hg:=Of r1 hk hj
      have hlt:=(List.getElem?_eq_some_iff.1 hg).1
      rw [F4 r1,hll, ←hysz] at hlt
      have hy:ys[k*sz+j]? =some ys[k*sz+j]:=Array.getElem?_eq_getElem hlt
      rw [Nat.zero_add,hy]
      exact ⟨rfl,Ey (y2.2 _ _ (.d d) hy (by rw [List.getElem?_map,hg];rfl))⟩
    exact .sl w.heap.size 0 l.length len sz l (fun k j=>(ys[k*sz+j]?).getD undef) rfl (by omega) (by unfold maxLen;have:len≤len*sz:=Nat.le_mul_of_pos_right _ hpos;omega) r1
      (fun k j x d h1 h2=>by rw [Hp.plus_at hnone];exact (hget k j x d h1 h2).1) (fun k j x d h1 h2=>((hget k j x d h1 h2).2).mono (Hp.plus_le _ _ _))
section
variable {P:Program} {n:Nat} {o:Oper} {f:Fr} {h:Xh} {t ty:TypeId} {sz len:Nat} {parts:Array (Nat × Operand)} {z:Value} {l:List (List D)}
theorem Kd (ho:o.op= .buildSlice t len parts) (hu:P.underlying t=some (.slice ty)) (hsz:sizeB P ty sz=true) (hz:zeroB P ty z)
    (hr:Gx h (ev f) sz parts.toList=some l) (hlen:parts.toList.map (·.1)=List.range len) (hpos:0<sz) (hmax:len*sz≤16777216):Step P n o f h (.d (.sl sz l)) f h:=by
  intro E H β a w hs hf hop
  obtain ⟨u,H',w',r1,r2,r3,r4⟩:=Tr ho hu hsz hz hr hlen hpos hmax (HLe.refl _) hs hop
  unfold Oper.wp
  rw [r1]
  exact ⟨H',β,u,rfl,r2,hf.mono r3 (fun _ _ h=>h), .d r4⟩
theorem CStep.slice (ho:o.op= .buildSlice t len parts) (hu:P.underlying t=some (.slice ty)) (hsz:sizeB P ty sz=true) (hz:zeroB P ty z)
    (hr:Gx h (ev f) sz parts.toList=some l) (hlen:parts.toList.map (·.1)=List.range len) (hpos:0<sz) (hmax:len*sz≤16777216):CStep P o f h [] (.d (.sl sz l)) h:=
  ⟨HLe.refl _, fun _ _ e => .inl e, fun hF hle E H β a w hs _ hop => by
    obtain ⟨u,H',w',r1,r2,r3,r4⟩:=Tr ho hu hsz hz hr hlen hpos hmax hle hs hop
    unfold Oper.wp
    rw [r1]
    exact ⟨H', β, u, rfl, r2, r3, fun _ _ h => h, fun _ _ => rfl, .d r4⟩⟩
end
section
variable {P:Program} {o:Oper} {e:Operand→S} {h:Xh} {t t':TypeId} {x y:Operand} {a b:Int}
theorem Anp (ho:o.op= .binOp .and t x y t') (hx:e x= .d (.v (.int .i64 a))) (hy:e y= .d (.v (.int .i64 b))) (ha:0≤a) (ha':a≤9223372036854775807) (hb:0≤b) (hb':b≤9223372036854775807):Bm P o e h (.d (.v (.int .i64 ((a.toNat &&& b.toNat:Nat):Int)))):=
  Ij ho hx hy rfl (by simp) fun w=>by
    obtain ⟨m,rfl⟩:∃m:Nat,a=m:=⟨a.toNat,by omega⟩
    obtain ⟨k,rfl⟩:∃k:Nat,b=k:=⟨b.toNat,by omega⟩
    have hm:m<2 ^ 64:=by omega
    have hk:k<2 ^ 64:=by omega
    have h1:(BitVec.ofInt 64 (m:Int) &&& BitVec.ofInt 64 (k:Int)).toNat=m &&& k:=by
      rw [BitVec.toNat_and,BitVec.ofInt_natCast,BitVec.ofInt_natCast,BitVec.toNat_ofNat,BitVec.toNat_ofNat,Nat.mod_eq_of_lt hm,Nat.mod_eq_of_lt hk]
    have hle:m &&& k≤m:=Nat.and_le_left
    show (Op.intBits .and .i64 m k).run P w=_
    unfold Op.intBits
    simp only [Int.toNat_natCast]
    have h2:IntKind.i64.wrap ((m &&& k:Nat):Int)=((m &&& k:Nat):Int):=IntWalk.i64_in _ (by omega)
    show Result.ok (Value.int .i64 (IntKind.i64.wrap ((BitVec.ofInt 64 (m:Int) &&& BitVec.ofInt 64 (k:Int)).toNat:Int))) w=_
    rw [h1,h2]
theorem Ap5 (n k:Nat):n &&& 2 ^ k=if n / 2 ^ k % 2=1 then 2 ^ k else 0:=by
  have hb:n.testBit k=decide (n / 2 ^ k % 2=1):=Nat.testBit_eq_decide_div_mod_eq
  apply Nat.eq_of_testBit_eq
  intro j
  rw [Nat.testBit_and,Nat.testBit_two_pow]
  by_cases e:k=j
  · subst e
    rw [hb]
    split
    · rename_i h;simp [h]
    · rename_i h;simp [h]
  · split
    · rw [Nat.testBit_two_pow];simp [e]
    · simp [e]
end
section
variable {P:Program} {n:Nat} {o:Oper} {f:Fr} {h:Xh}
theorem A9 (i:Nat) {l:List S} {t:TypeId} {z:Value} (ho:o.op= .alloc t) (hz:zeroB P t z) (hl:S.killL i (z.cells.toList.map fun x=> .d (.v x))=l):Step P n o f h (.ptr i 0 0) (Hs f i) ((h.kill i).set i (.box l)):=by
  subst hl;exact Alh i ho hz
theorem Ay (i:Nat) {l:List S} {t:TypeId} {x:Operand} {cs:List S} (ho:o.op= .box t x) (hc:Fo h (ev f x)=some cs) (hl:S.killL i cs=l):Step P n o f h (.ptr i 0 0) (Hs f i) ((h.kill i).set i (.box l)):=by
  subst hl;exact Aql i ho hc
theorem Ai {t m:Nat} {x y:Operand} {i off:Nat} {l cs l':List S} (ho:o.op= .store t x y) (hx:ev f x= .ptr i 0 off) (hi:h i=some (.box l)) (hc:Fo h (ev f y)=some cs) (hz:sizeB P t m=true) (hm:cs.length=m) (hoff:off+m≤l.length) (hl:sets l off cs=l'):
    Step P n o f h (.d (.v undef)) f (h.set i (.box l')):=by
  subst hl;exact Alf ho hx hi hc hz hm hoff
theorem CStep.allocN (i:Nat) {l:List S} {t:TypeId} {z:Value} (ho:o.op= .alloc t) (hz:zeroB P t z) (hi:h i=none) (hl:(z.cells.toList.map fun x=>S.d (.v x))=l):CStep P o f h [i] (.ptr i 0 0) (h.set i (.box l)):=by
  subst hl;exact CStep.alloc i ho hz hi
end
section
variable {P:Program} {n:Nat} {ops:Array Oper} {rest:List Oper} {K K0:D3} {f:Fr} {h:Xh} {o:Oper} {x y z:Operand} {d:D} {b:Bool} {s:S}
theorem zp (hp:Bm P o (ev f) h s) (hr:XL P n ops rest K (Bw f o.dst s) h) (hw:Cd ops f n o.guard=some true:=by exact rfl):XL P n ops (o::rest) K f h:=XL.pure hw hp hr
theorem zm (ho:o.op= .move x) (hs:ev f x= .d d) (hr:XL P n ops rest K (Bw f o.dst (.d d)) h) (hw:Cd ops f n o.guard=some true:=by exact rfl):XL P n ops (o::rest) K f h:=XL.pure hw (Au ho hs) hr
theorem za (ho:o.op= .assign x) (hs:ev f x= .d d) (hr:XL P n ops rest K (Bw f o.dst (.d d)) h) (hw:Cd ops f n o.guard=some true:=by exact rfl):XL P n ops (o::rest) K f h:=XL.pure hw (Aq ho hs) hr
theorem zq (ho:o.op= .pick z x y) (hc:ev f z= .d (.v (.bool b))) (hs:(bif b then ev f x else ev f y)= .d d) (hr:XL P n ops rest K (Bw f o.dst (.d d)) h) (hw:Cd ops f n o.guard=some true:=by exact rfl):XL P n ops (o::rest) K f h:=XL.pure hw (Av ho hc hs) hr
def skB (ops:Array Oper) (n:Nat):Nat→List Oper→Fr→Bool
  |0,_,_=>true
  |_+1, [],_=>false
  |k+1,o::r,f=>(match Cd ops f n o.guard with|some false=>true|_=>false) && skB ops n k r (Bw f o.dst (.d (.v undef)))
def skF:Nat→List Oper→Fr→Fr
  |0,_,f=>f
  |_+1, [],f=>f
  |k+1,o::r,f=>skF k r (Bw f o.dst (.d (.v undef)))
theorem zk (k:Nat) (hk:skB ops n k rest f=true) (hr:XL P n ops (rest.drop k) K (skF k rest f) h):XL P n ops rest K f h:=by
  induction k generalizing rest f with
  |zero=>exact hr
  |succ k ih=>
    cases rest with
    |nil=>cases hk
    |cons o r=>
      rw [skB,Bool.and_eq_true] at hk
      have hw:Cd ops f n o.guard=some false:=by
        have h1:=hk.1
        split at h1
        · assumption
        · cases h1
      exact XL.skip hw (ih hk.2 hr)
theorem zr {id:Nat} {l:List Oper} {c:Code} (hl:XL P n l.toArray l (Nu (XW P n c K) K) f h) (hin:l.all (inN n)=true:=by kernel_rfl):XW P n (.seq (.region id l.toArray false) c) K f h:=Aij (Af hin hl)
theorem znr {id:Nat} {l:List Oper} {c:Code} (hl:XL P n l.toArray l (Nu (XW P n c K) K) f h) (hin:l.all (inN n)=true:=by kernel_rfl):XL P n ops [] (Nu (XW P n (.seq (.region id l.toArray false) c) K) K0) f h:=XL.nil (zr hl hin)
theorem zng {id:Nat} {l:List Oper} (hl:XL P n l.toArray l K f h) (hin:l.all (inN n)=true:=by kernel_rfl):XL P n ops [] (Nu (XW P n (.region id l.toArray false) K) K0) f h:=XL.nil (Af hin hl)
theorem yp {acc:List (List Nat × S)} {G:List (List Nat × S)→Fr→Xh→Prop} (hp:Bm P o (ev f) h s) (hr:ChK P n ops rest (Bw f o.dst s) h (acc++ [([],s)]) G) (hw:Cd ops f n o.guard=some true:=by exact rfl):ChK P n ops (o::rest) f h acc G:=ChK.cons hw (CStep.pure hp) hr
theorem ym {acc:List (List Nat × S)} {G:List (List Nat × S)→Fr→Xh→Prop} (ho:o.op= .move x) (hs:ev f x= .d d) (hr:ChK P n ops rest (Bw f o.dst (.d d)) h (acc++ [([], .d d)]) G) (hw:Cd ops f n o.guard=some true:=by exact rfl):ChK P n ops (o::rest) f h acc G:=ChK.cons hw (CStep.pure (Au ho hs)) hr
theorem ya {acc:List (List Nat × S)} {G:List (List Nat × S)→Fr→Xh→Prop} (ho:o.op= .assign x) (hs:ev f x= .d d) (hr:ChK P n ops rest (Bw f o.dst (.d d)) h (acc++ [([], .d d)]) G) (hw:Cd ops f n o.guard=some true:=by exact rfl):ChK P n ops (o::rest) f h acc G:=ChK.cons hw (CStep.pure (Aq ho hs)) hr
theorem zn (hk:K .normal f h):XL P n ops [] K f h:=XL.nil hk
theorem zs {x y:Code} (hx:XW P n x (Nu (XW P n y K) K) f h):XW P n (.seq x y) K f h:=Aij hx
theorem zt (hk:K .ret f h):XW P n .ret K f h:=Ap7 hk
theorem zi (hk:K .normal f h):XW P n .skip K f h:=An3 hk
theorem zd {c:Operand} {x y:Code} {p:Prop} [Decidable p] (hc:ev f c= .d (.v (.bool (decide p)))) (h1:p→XW P n x K f h) (h2:¬p→XW P n y K f h) (hi:Sx n c=true:=by kernel_rfl):XW P n (.cond c x y) K f h:=Ap8 hi hc h1 h2
theorem z1 {fn:Func} {R:D→Prop} {t:Nat} (hr:fn.results= #[.tmp t]) (hf:f t= .d d) (hR:R d) (ht:Nat.blt t n=true:=by exact rfl):Mi P n fn R f h:=Ft hr (RV.tmp ht hf) hR
theorem sr {s:S}:Sub s s:= .same rfl
def FA (f:Fr):List (Nat × S)→Prop
  | []=>True
  |(t,s)::l=>Sub (f t) s∧FA f l
theorem fz:∀{l:List (Nat × S)},FA f l→FSub n f (mkF l)
  | [],_=>FSub.nil
  |(_,_)::_,h=>FSub.cons h.1 (fz h.2)
def HA (h:Xh):List (Nat × XO)→Prop
  | []=>True
  |(i,o)::l=>h i=some o∧HA h l
theorem gz:∀{l:List (Nat × XO)},HA h l→HSub h (mkH l)
  | [],_=>HSub.nil
  |(_,_)::_,k=>HSub.cons k.1 (gz k.2)
end
end Go.Proofs.YtcihalbakenleaaGreat
namespace Go.Proofs.YtcihalbakenleaaGreat
open Go.RowKit
def Sj:Nat→Int
 |0=>0|1=>2|2=>4|3=>5|4=>7|5=>9|_=>11
theorem Afc (k:Nat):0≤Sj k∧Sj k≤11:=by unfold Sj;split<;>omega
def Ai2:List D:= [dI 0,dI 2,dI 4,dI 5,dI 7,dI 9,dI 11]
theorem Ai1 (k:Nat) (h:k<7):Ai2[k]? =some (dI (Sj k)):=by
 match k,h with
 |0,_=>rfl|1,_=>rfl|2,_=>rfl|3,_=>rfl|4,_=>rfl|5,_=>rfl|6,_=>rfl
 |k+7,h=>omega
def Pit.inR (p:Pit):Prop:=0≤p.step∧p.step≤6∧ -2≤p.alter∧p.alter≤2∧ -1≤p.oct∧p.oct≤9
instance (p:Pit):Decidable p.inR:=by unfold Pit.inR;exact inferInstance
def Pit.n (p:Pit):Int:=12*(p.oct+1)+Sj p.step.toNat+p.alter
def Pit.good (p:Pit):Prop:=p.inR∧0≤p.n∧p.n≤127
instance (p:Pit):Decidable p.good:=by unfold Pit.good;exact inferInstance
def Pit.err (p:Pit):Int:=if p.good then 0 else 18
def Pit.num (p:Pit):Int:=if p.good then p.n else 0
theorem Yc  :XC Tryz.prog 192 [] (fun r=>r= .agg Ai2):=by
 refine Ap Z1 Tryz.func192 R R lb<|zr<|XL.step R (A9 0 (l:= [.d (dI 0), .d (dI 0), .d (dI 0), .d (dI 0), .d (dI 0), .d (dI 0), .d (dI 0)]) R Xy (by kernel_rfl))<|znr<|zp (Ad (s':= .d (.agg [dI 0,dI 2,dI 4,dI 5,dI 7,dI 9,dI 11])) (Ae (Pi R Tryz.underlying210 C0 Xy R)) (by kernel_rfl))<|?_
 refine XL.step R (Ai (l':= [.d (dI 0), .d (dI 2), .d (dI 4), .d (dI 5), .d (dI 7), .d (dI 9), .d (dI 11)]) R R R R Aqe R lb (by kernel_rfl))<|zn<|zt<|?_
 exact Ft R (RV.cells R R R Ap6 lb R) (R)
theorem T4 (p:Pit) (h:p.inR):XC Tryz.prog 189 [.agg (Pit.c p)] (fun r=>r=dI p.n):=by
 obtain ⟨k,hk⟩:∃k:Nat,p.step=k:=⟨p.step.toNat,by have:=h.1;omega⟩
 have hb:=Afc k
 have h':=h
 simp only [Pit.inR] at h
 refine Ap Z4 Tryz.func189 R R lb<|zr<|XL.step R (Ay 1 (l:= [.d (dI p.step), .d (dI p.alter), .d (dI p.oct)]) R R (by kernel_rfl))<|za R R<|zn<|zs<|A8 [] (by kernel_rfl) (by kernel_rfl) (by kernel_rfl) (by decide)<|yp (Aa R R La)<|yp (Ab R R Ah R R)<|yp (Ak R R R (by omega) (by omega))<|yp (G4 R R R (by omega) (by omega))<|?_
 refine ChK.cons R (CStep.call R (Yc) R)<|yp (Aa R R Lc)<|yp (Ab R R Ah R R)<|yp (Wa (k:=k) R R R hk Tryz.underlying210 Ah C0 (by omega) (Ai1 k (by omega)))<|yp (Ak R R R (by omega) (by omega))<|yp (Aa R R Lb)<|yp (Ab R R Ah R R)<|yp (Ak R R R (by omega) (by omega))<|ya R R<|?_
 refine ChK.nil ⟨by kernel_rfl, ?_⟩
 exact zt<|z1 R R (rI (by rw [Pit.n,hk];rfl))
theorem Pit.inR_mk {p:Pit} (h1:¬p.step<0) (h2:¬6<p.step) (h3:¬p.alter< -2) (h4:¬2<p.alter) (h5:¬p.oct< -1) (h6:¬9<p.oct):p.inR:=⟨by omega,by omega,by omega,by omega,by omega,by omega⟩
theorem Pit.err_no {p:Pit} (h:¬p.good):18=p.err:=by rw [Pit.err,if_neg h]
theorem Pit.err_ok {p:Pit} (h:p.good):0=p.err:=by rw [Pit.err,if_pos h]
theorem Ajk (p:Pit):XC Tryz.prog 188 [.agg (Pit.c p)] (fun r=>r=dI p.err):=by
 refine Ap Z5 Tryz.func188 R R lb<|zr<|XL.step R (Ay 1 (l:= [.d (dI p.step), .d (dI p.alter), .d (dI p.oct)]) R R (by kernel_rfl))<|za R R<|zn<|zs<|zr<|zp (Aa R R Lc)<|zp (Ab R R Ah R R)<|zp (At R R R)<|zm R R<|?_
 refine XL.dec 7 R (fun g7=> ?_) (fun g7=> ?_)
 refine zk 3 R<|zq R R R<|zm R R<|zk 3 R<|zq R R R<|zm R R<|zk 3 R<|zq R R R<|zm R R<|zk 3 R<|zq R R R<|zm R R<|zk 3 R<|zq R R R<|?_
 exact zn<|Ao (by kernel_rfl) R<|zr<|za R R<|zn<|zt<|z1 R R (rI (Pit.err_no fun h=>by obtain ⟨⟨h1,h2,h3,h4,h5,h6⟩,_⟩:=h;omega))
 refine zp (Aa R R Lc)<|zp (Ab R R Ah R R)<|zp (A6 R R R)<|zq R R R<|zm R R<|?_
 refine XL.dec 12 R (fun g12=> ?_) (fun g12=> ?_)
 refine zk 3 R<|zq R R R<|zm R R<|zk 3 R<|zq R R R<|zm R R<|zk 3 R<|zq R R R<|zm R R<|zk 3 R<|zq R R R<|zn<|Ao (by kernel_rfl) R<|zr<|?_
 exact za R R<|zn<|zt<|z1 R R (rI (Pit.err_no fun h=>by obtain ⟨⟨h1,h2,h3,h4,h5,h6⟩,_⟩:=h;omega))
 refine zp (Aa R R Lb)<|zp (Ab R R Ah R R)<|zp (At R R R)<|zq R R R<|zm R R<|?_
 refine XL.dec 17 R (fun g17=> ?_) (fun g17=> ?_)
 exact zk 3 R<|zq R R R<|zm R R<|zk 3 R<|zq R R R<|zm R R<|zk 3 R<|zq R R R<|zn<|Ao (by kernel_rfl) R<|zr<|za R R<|zn<|zt<|z1 R R (rI (Pit.err_no fun h=>by obtain ⟨⟨h1,h2,h3,h4,h5,h6⟩,_⟩:=h;omega))
 refine zp (Aa R R Lb)<|zp (Ab R R Ah R R)<|zp (A6 R R R)<|zq R R R<|zm R R<|?_
 refine XL.dec 22 R (fun g22=> ?_) (fun g22=> ?_)
 exact zk 3 R<|zq R R R<|zm R R<|zk 3 R<|zq R R R<|zn<|Ao (by kernel_rfl) R<|zr<|za R R<|zn<|zt<|z1 R R (rI (Pit.err_no fun h=>by obtain ⟨⟨h1,h2,h3,h4,h5,h6⟩,_⟩:=h;omega))
 refine zp (Aa R R La)<|zp (Ab R R Ah R R)<|zp (At R R R)<|zq R R R<|zm R R<|?_
 refine XL.dec 27 R (fun g27=> ?_) (fun g27=> ?_)
 exact zk 3 R<|zq R R R<|zn<|Ao (by kernel_rfl) R<|zr<|za R R<|zn<|zt<|z1 R R (rI (Pit.err_no fun h=>by obtain ⟨⟨h1,h2,h3,h4,h5,h6⟩,_⟩:=h;omega))
 refine zp (Aa R R La)<|zp (Ab R R Ah R R)<|zp (A6 R R R)<|zq R R R<|zn<|?_
 refine zd R (fun c31=> ?_) (fun c31=> ?_)
 exact zr<|za R R<|zn<|zt<|z1 R R (rI (Pit.err_no fun h=>by obtain ⟨⟨h1,h2,h3,h4,h5,h6⟩,_⟩:=h;omega))
 refine zi<|zs<|zs<|?_
 have hin:p.inR:=by refine Pit.inR_mk ?_ ?_ ?_ ?_ ?_ ?_<;>assumption
 refine Af (by kernel_rfl)<|zp (Ad (s':= .d (.agg (Pit.c p))) (Ae (Ac R R Eo R lb)) (by kernel_rfl))<|XL.call1 R R (T4 _ (by assumption)) R<|za R R<|znr<|zm R R<|zp (At R R R)<|zm R R<|?_
 refine XL.dec 36 R (fun g36=> ?_) (fun g36=> ?_)
 exact zk 2 R<|zq R R R<|zn<|Ao (by kernel_rfl) R<|zr<|za R R<|zn<|zt<|z1 R R (rI (Pit.err_no fun h=>by obtain ⟨_,h1,h2⟩:=h;omega))
 refine zm R R<|zp (A6 R R R)<|zq R R R<|zn<|?_
 refine zd R (fun c39=> ?_) (fun c39=> ?_)
 exact zr<|za R R<|zn<|zt<|z1 R R (rI (Pit.err_no fun h=>by obtain ⟨_,h1,h2⟩:=h;omega))
 exact zi<|zr<|za R R<|zn<|zt<|z1 R R (rI (Pit.err_ok ⟨hin,by omega,by omega⟩))
theorem Pit.err_num {p:Pit} (h:p.err≠0):0=p.num∧p.err=18:=by unfold Pit.err at h ⊢;unfold Pit.num;split<;>simp_all
theorem Pit.of_err {p:Pit} (h:¬p.err≠0):p.good:=by unfold Pit.err at h;split at h<;>simp_all
theorem Pit.num_ok {p:Pit} (h:p.good):p.num=p.n:=by rw [Pit.num,if_pos h]
theorem Pit.num_bd (p:Pit):0≤p.num∧p.num≤127:=by
 unfold Pit.num
 split
 ·rename_i h;exact h.2
 ·omega
theorem Ag9 (p:Pit):XC Tryz.prog 178 [.agg (Pit.c p)] (fun r=>r= .tup [dI p.num,dI p.err]):=by
 refine Ap Aae Tryz.func178 R R lb<|zr<|XL.step R (Ay 1 (l:= [.d (dI p.step), .d (dI p.alter), .d (dI p.oct)]) R R (by kernel_rfl))<|za R R<|za R R<|zn<|zs<|zr<|zp (Ad (s':= .d (.agg (Pit.c p))) (Ae (Ac R R Eo R lb)) (by kernel_rfl))<|XL.call1 R R (Ajk _) R<|za R R<|znr<|zm R R<|zp (Bc R R R)<|?_
 refine zn<|?_
 refine zd R (fun c8=> ?_) (fun c8=> ?_)
 refine zr<|zm R R<|za R R<|za R R<|zn<|zt<|?_
 exact Bs R (RV.tmp R R) (RV.tmp R R) (r2 (rI (Pit.err_num c8).1) R)
 refine zi<|zs<|?_
 have hg:=Pit.of_err c8
 have hin:=hg.1
 refine Af (by kernel_rfl)<|zp (Ad (s':= .d (.agg (Pit.c p))) (Ae (Ac R R Eo R lb)) (by kernel_rfl))<|XL.call1 R R (T4 _ (by assumption)) R<|za R R<|za R R<|zn<|zt<|?_
 exact Bs R (RV.tmp R R) (RV.tmp R R) (r2 (rI (Pit.num_ok hg).symm) (rI (Pit.err_ok hg)))
theorem Px (p:Pit):XC Tryz.prog 153 [.agg (Pit.c p)] (fun r=>r= .tup [dI p.num,dI p.err]):=by
 have hb:=p.num_bd
 refine Ap Aa1 Tryz.func153 R R lb<|zr<|XL.step R (Ay 1 (l:= [.d (dI p.step), .d (dI p.alter), .d (dI p.oct)]) R R (by kernel_rfl))<|za R R<|za R R<|znr<|zp (Ad (s':= .d (.agg (Pit.c p))) (Ae (Ac R R Eo R lb)) (by kernel_rfl))<|XL.call1 R R (Ag9 _) R<|zm R R<|zp (Bh R R R)<|zp (Bh R R R)<|za R R<|za R R<|zn<|?_
 refine zs<|zr<|zm R R<|zp (Bc R R R)<|zm R R<|?_
 refine XL.dec 13 R (fun g13=> ?_) (fun g13=> ?_)
 refine zk 2 R<|zq R R R<|zm R R<|zk 2 R<|zq R R R<|zn<|Ao (by kernel_rfl) R<|zr<|za R R<|za R R<|zn<|zt<|?_
 exact Bs R (RV.tmp R R) (RV.tmp R R) (r2 (rI (Pit.err_num g13).1) (rI (Pit.err_num g13).2.symm))
 refine zm R R<|zp (At R R R)<|zq R R R<|zm R R<|?_
 refine XL.dec 17 R (fun g17=> ?_) (fun g17=> ?_)
 refine zk 2 R<|zq R R R<|zn<|Ao (by kernel_rfl) R<|zr<|za R R<|za R R<|zn<|zt<|?_
 exact Bs R (RV.tmp R R) (RV.tmp R R) (by exfalso;omega)
 refine zm R R<|zp (A6 R R R)<|zq R R R<|zn<|?_
 refine zd R (fun c20=> ?_) (fun c20=> ?_)
 refine zr<|za R R<|za R R<|zn<|zt<|?_
 exact Bs R (RV.tmp R R) (RV.tmp R R) (by exfalso;omega)
 refine zi<|zr<|zm R R<|za R R<|za R R<|zn<|zt<|?_
 exact Bs R (RV.tmp R R) (RV.tmp R R) (r2 R (rI (Pit.err_ok (Pit.of_err g13))))
end Go.Proofs.YtcihalbakenleaaGreat
namespace Go.Proofs.YtcihalbakenleaaGreat
open Go.RowKit
theorem F5 {P:Program} {w:World} (d t:Nat) (h:P.underlying t=some (.int .i64)) (a b:Int):(Op.equalIn (d+1) t (.int .i64 a) (.int .i64 b)).run P w= .ok (decide (a=b)) w:=by
 rw [run_equalIn_int w d t .i64 .i64 a b h];by_cases e:a=b<;>simp [e]
theorem Zt {P:Program} {w:World} (d t:Nat) (h:P.underlying t=some .bool) (a b:Bool):(Op.equalIn (d+1) t (.bool a) (.bool b)).run P w= .ok (decide (a=b)) w:=by
 rw [run_equalIn_bool' w d t a b h];cases a<;>cases b<;>rfl
theorem Apy {P:Program} {w:World} (d t:Nat) (h:P.underlying t=some .string) (a b:ByteArray):(Op.equalIn (d+1) t (.string a) (.string b)).run P w= .ok (decide (a.toList=b.toList)) w:=by
 rw [run_equalIn_string w d t a b h];by_cases e:a.toList=b.toList<;>simp [e]
theorem Ho {P:Program} {t:TypeId} {fs:Array Field} (h:P.underlying t=some (.struct fs)):P.fieldsOf t=fs:=by unfold Program.fieldsOf;rw [h]
theorem Di {P:Program} {t:TypeId} (hs:scB P t=true) (w:World) {cs:Array Value} {off:Nat} {v:Value} (h:cs[off]? =some v):(part t cs off).run P w= .ok v w:=by
 unfold part;simp only [Sem.run_bind,scB.isAgg hs,Result.andThen_ok,Bool.false_eq_true,if_false,h,Sem.run_pure]
theorem Xq {P:Program} {t n:Nat} (hs:aggB P t n=true) (w:World) {cs ds:Array Value} {off:Nat} (h:cs.extract off (off+n)=ds):(part t cs off).run P w= .ok (.agg ds) w:=by
 unfold part;simp only [Sem.run_bind,(aggB.isAgg hs w).1,Result.andThen_ok,if_true,(aggB.isAgg hs w).2,h,Sem.run_pure]
section
variable {P:Program} {w:World} {d:Nat} {xs ys:Array Value} {f:Field} {fs:List Field} {a b:Value} {p q:Prop} [Decidable p] [Decidable q]
theorem Gl (hn : f.name ≠ "_") (ha : (part f.type xs f.offset).run P w = .ok a w) (hb : (part f.type ys f.offset).run P w = .ok b w) (he : (Op.equalIn d f.type a b).run P w = .ok (decide p) w) (hr : (Op.eqFields d xs ys fs).run P w = .ok (decide q) w) :
  (Op.eqFields d xs ys (f::fs)).run P w= .ok (decide (p∧q)) w:=by
 unfold Op.eqFields
 rw [if_pos hn]
 simp only [Sem.run_bind,ha,hb,he,Result.andThen_ok,Sem.run_ite,hr,Sem.run_pure]
 by_cases h:p<;>simp [h]
theorem Le (hn : f.name ≠ "_") (ha : (part f.type xs f.offset).run P w = .ok a w) (hb : (part f.type ys f.offset).run P w = .ok b w) (he : (Op.equalIn d f.type a b).run P w = .ok (decide p) w) :
  (Op.eqFields d xs ys [f]).run P w= .ok (decide p) w:=by
 unfold Op.eqFields
 rw [if_pos hn]
 simp only [Sem.run_bind,ha,hb,he,Result.andThen_ok,Sem.run_ite,Op.eqFields,Sem.run_pure]
 by_cases h:p<;>simp [h]
end
theorem Af7 (d:Nat) (w:World) (a0:Int) (a1:Int) (b0:Int) (b1:Int):(Op.equalIn (d+2) 54 (.agg #[.int .i64 a0, .int .i64 a1]) (.agg #[.int .i64 b0, .int .i64 b1])).run Tryz.prog w= .ok (decide (a0=b0∧a1=b1)) w:=by
 rw [show d+2=(d+1)+1 from rfl,run_equalIn_struct w (d+1) 54 _ _ (by kernel_rfl) (by kernel_rfl),Ho Tryz.underlying54]
 exact Gl (by decide) (Di Ah w rfl) (Di Ah w rfl) (F5 (d+0) 3 Tryz.underlying3 _ _) (Le (by decide) (Di Ah w rfl) (Di Ah w rfl) (F5 (d+0) 3 Tryz.underlying3 _ _))
theorem Al6 {t':TypeId} {o:Oper} {e:Operand→S} {h:Xh} {x y:Operand} {a0:Int} {a1:Int} {b0:Int} {b1:Int} (ho:o.op= .binOp .eql 54 x y t') (hx:e x= .d (.agg [.v (.int .i64 a0), .v (.int .i64 a1)])) (hy:e y= .d (.agg [.v (.int .i64 b0), .v (.int .i64 b1)])):Bm Tryz.prog o e h (.d (.v (.bool (decide (a0=b0∧a1=b1))))):=by
 refine Gi ho hx hy rfl rfl (by kernel_rfl) fun w=> ?_
 refine (run_eql_struct w 54 #[.int .i64 a0, .int .i64 a1] #[.int .i64 b0, .int .i64 b1]).trans ?_
 have hq:=Af7 9998 w a0 a1 b0 b1
 simp only [Nat.reduceAdd] at hq
 rw [hq]
 simp only [Result.andThen_ok]
theorem Yw {t':TypeId} {o:Oper} {e:Operand→S} {h:Xh} {x y:Operand} {a0:Int} {a1:Int} {b0:Int} {b1:Int} (ho:o.op= .binOp .neq 54 x y t') (hx:e x= .d (.agg [.v (.int .i64 a0), .v (.int .i64 a1)])) (hy:e y= .d (.agg [.v (.int .i64 b0), .v (.int .i64 b1)])):Bm Tryz.prog o e h (.d (.v (.bool (decide (¬(a0=b0∧a1=b1)))))):=by
 refine Gi ho hx hy rfl rfl (by kernel_rfl) fun w=> ?_
 refine (run_neq_struct w 54 #[.int .i64 a0, .int .i64 a1] #[.int .i64 b0, .int .i64 b1]).trans ?_
 have hq:=Af7 9998 w a0 a1 b0 b1
 simp only [Nat.reduceAdd] at hq
 rw [hq]
 simp only [Result.andThen_ok,decide_not]
theorem Af6 (d:Nat) (w:World) (a0:Int) (a1:Int) (b0:Int) (b1:Int):(Op.equalIn (d+2) 56 (.agg #[.int .i64 a0, .int .i64 a1]) (.agg #[.int .i64 b0, .int .i64 b1])).run Tryz.prog w= .ok (decide (a0=b0∧a1=b1)) w:=by
 rw [show d+2=(d+1)+1 from rfl,run_equalIn_struct w (d+1) 56 _ _ (by kernel_rfl) (by kernel_rfl),Ho Tryz.underlying56]
 exact Gl (by decide) (Di Ah w rfl) (Di Ah w rfl) (F5 (d+0) 3 Tryz.underlying3 _ _) (Le (by decide) (Di Ah w rfl) (Di Ah w rfl) (F5 (d+0) 3 Tryz.underlying3 _ _))
theorem Ph {t':TypeId} {o:Oper} {e:Operand→S} {h:Xh} {x y:Operand} {a0:Int} {a1:Int} {b0:Int} {b1:Int} (ho:o.op= .binOp .eql 56 x y t') (hx:e x= .d (.agg [.v (.int .i64 a0), .v (.int .i64 a1)])) (hy:e y= .d (.agg [.v (.int .i64 b0), .v (.int .i64 b1)])):Bm Tryz.prog o e h (.d (.v (.bool (decide (a0=b0∧a1=b1))))):=by
 refine Gi ho hx hy rfl rfl (by kernel_rfl) fun w=> ?_
 refine (run_eql_struct w 56 #[.int .i64 a0, .int .i64 a1] #[.int .i64 b0, .int .i64 b1]).trans ?_
 have hq:=Af6 9998 w a0 a1 b0 b1
 simp only [Nat.reduceAdd] at hq
 rw [hq]
 simp only [Result.andThen_ok]
theorem Al2 {t':TypeId} {o:Oper} {e:Operand→S} {h:Xh} {x y:Operand} {a0:Int} {a1:Int} {b0:Int} {b1:Int} (ho:o.op= .binOp .neq 56 x y t') (hx:e x= .d (.agg [.v (.int .i64 a0), .v (.int .i64 a1)])) (hy:e y= .d (.agg [.v (.int .i64 b0), .v (.int .i64 b1)])):Bm Tryz.prog o e h (.d (.v (.bool (decide (¬(a0=b0∧a1=b1)))))):=by
 refine Gi ho hx hy rfl rfl (by kernel_rfl) fun w=> ?_
 refine (run_neq_struct w 56 #[.int .i64 a0, .int .i64 a1] #[.int .i64 b0, .int .i64 b1]).trans ?_
 have hq:=Af6 9998 w a0 a1 b0 b1
 simp only [Nat.reduceAdd] at hq
 rw [hq]
 simp only [Result.andThen_ok,decide_not]
theorem Vg (d:Nat) (w:World) (a0:Int) (a1:Int) (a2:Int) (b0:Int) (b1:Int) (b2:Int):(Op.equalIn (d+2) 89 (.agg #[.int .i64 a0, .int .i64 a1, .int .i64 a2]) (.agg #[.int .i64 b0, .int .i64 b1, .int .i64 b2])).run Tryz.prog w= .ok (decide (a0=b0∧a1=b1∧a2=b2)) w:=by
 rw [show d+2=(d+1)+1 from rfl,run_equalIn_struct w (d+1) 89 _ _ (by kernel_rfl) (by kernel_rfl),Ho Tryz.underlying89]
 exact Gl (by decide) (Di Ah w rfl) (Di Ah w rfl) (F5 (d+0) 3 Tryz.underlying3 _ _) (Gl (by decide) (Di Ah w rfl) (Di Ah w rfl) (F5 (d+0) 3 Tryz.underlying3 _ _) (Le (by decide) (Di Ah w rfl) (Di Ah w rfl) (F5 (d+0) 3 Tryz.underlying3 _ _)))
theorem Sv {t':TypeId} {o:Oper} {e:Operand→S} {h:Xh} {x y:Operand} {a0:Int} {a1:Int} {a2:Int} {b0:Int} {b1:Int} {b2:Int} (ho:o.op= .binOp .neq 89 x y t') (hx:e x= .d (.agg [.v (.int .i64 a0), .v (.int .i64 a1), .v (.int .i64 a2)])) (hy:e y= .d (.agg [.v (.int .i64 b0), .v (.int .i64 b1), .v (.int .i64 b2)])):Bm Tryz.prog o e h (.d (.v (.bool (decide (¬(a0=b0∧a1=b1∧a2=b2)))))):=by
 refine Gi ho hx hy rfl rfl (by kernel_rfl) fun w=> ?_
 refine (run_neq_struct w 89 #[.int .i64 a0, .int .i64 a1, .int .i64 a2] #[.int .i64 b0, .int .i64 b1, .int .i64 b2]).trans ?_
 have hq:=Vg 9998 w a0 a1 a2 b0 b1 b2
 simp only [Nat.reduceAdd] at hq
 rw [hq]
 simp only [Result.andThen_ok,decide_not]
theorem Apx (d:Nat) (w:World) (a0:Int) (a1:Int) (a2:Int) (a3:Bool) (a4:Int) (b0:Int) (b1:Int) (b2:Int) (b3:Bool) (b4:Int):(Op.equalIn (d+3) 91 (.agg #[.int .i64 a0, .int .i64 a1, .int .i64 a2, .bool a3, .int .i64 a4]) (.agg #[.int .i64 b0, .int .i64 b1, .int .i64 b2, .bool b3, .int .i64 b4])).run Tryz.prog w= .ok (decide ((a0=b0∧a1=b1∧a2=b2)∧a3=b3∧a4=b4)) w:=by
 rw [show d+3=(d+2)+1 from rfl,run_equalIn_struct w (d+2) 91 _ _ (by kernel_rfl) (by kernel_rfl),Ho Tryz.underlying91]
 exact Gl (by decide) (Xq Eo w rfl) (Xq Eo w rfl) (Vg (d) w _ _ _ _ _ _) (Gl (by decide) (Di K1 w rfl) (Di K1 w rfl) (Zt (d+1) 4 Tryz.underlying4 _ _) (Le (by decide) (Di Ah w rfl) (Di Ah w rfl) (F5 (d+1) 3 Tryz.underlying3 _ _)))
theorem Yv {t':TypeId} {o:Oper} {e:Operand→S} {h:Xh} {x y:Operand} {a0:Int} {a1:Int} {a2:Int} {a3:Bool} {a4:Int} {b0:Int} {b1:Int} {b2:Int} {b3:Bool} {b4:Int} (ho:o.op= .binOp .neq 91 x y t') (hx:e x= .d (.agg [.v (.int .i64 a0), .v (.int .i64 a1), .v (.int .i64 a2), .v (.bool a3), .v (.int .i64 a4)])) (hy:e y= .d (.agg [.v (.int .i64 b0), .v (.int .i64 b1), .v (.int .i64 b2), .v (.bool b3), .v (.int .i64 b4)])):Bm Tryz.prog o e h (.d (.v (.bool (decide (¬((a0=b0∧a1=b1∧a2=b2)∧a3=b3∧a4=b4)))))):=by
 refine Gi ho hx hy rfl rfl (by kernel_rfl) fun w=> ?_
 refine (run_neq_struct w 91 #[.int .i64 a0, .int .i64 a1, .int .i64 a2, .bool a3, .int .i64 a4] #[.int .i64 b0, .int .i64 b1, .int .i64 b2, .bool b3, .int .i64 b4]).trans ?_
 have hq:=Apx 9997 w a0 a1 a2 a3 a4 b0 b1 b2 b3 b4
 simp only [Nat.reduceAdd] at hq
 rw [hq]
 simp only [Result.andThen_ok,decide_not]
theorem Am1 (d:Nat) (w:World) (a0:Int) (a1:Int) (a2:Int) (a3:Int) (b0:Int) (b1:Int) (b2:Int) (b3:Int):(Op.equalIn (d+2) 102 (.agg #[.int .i64 a0, .int .i64 a1, .int .i64 a2, .int .i64 a3]) (.agg #[.int .i64 b0, .int .i64 b1, .int .i64 b2, .int .i64 b3])).run Tryz.prog w= .ok (decide (a0=b0∧a1=b1∧a2=b2∧a3=b3)) w:=by
 rw [show d+2=(d+1)+1 from rfl,run_equalIn_struct w (d+1) 102 _ _ (by kernel_rfl) (by kernel_rfl),Ho Tryz.underlying102]
 exact Gl (by decide) (Di Ah w rfl) (Di Ah w rfl) (F5 (d+0) 3 Tryz.underlying3 _ _) (Gl (by decide) (Di Ah w rfl) (Di Ah w rfl) (F5 (d+0) 3 Tryz.underlying3 _ _) (Gl (by decide) (Di Ah w rfl) (Di Ah w rfl) (F5 (d+0) 3 Tryz.underlying3 _ _) (Le (by decide) (Di Ah w rfl) (Di Ah w rfl) (F5 (d+0) 3 Tryz.underlying3 _ _))))
theorem Ajl {t':TypeId} {o:Oper} {e:Operand→S} {h:Xh} {x y:Operand} {a0:Int} {a1:Int} {a2:Int} {a3:Int} {b0:Int} {b1:Int} {b2:Int} {b3:Int} (ho:o.op= .binOp .neq 102 x y t') (hx:e x= .d (.agg [.v (.int .i64 a0), .v (.int .i64 a1), .v (.int .i64 a2), .v (.int .i64 a3)])) (hy:e y= .d (.agg [.v (.int .i64 b0), .v (.int .i64 b1), .v (.int .i64 b2), .v (.int .i64 b3)])):Bm Tryz.prog o e h (.d (.v (.bool (decide (¬(a0=b0∧a1=b1∧a2=b2∧a3=b3)))))):=by
 refine Gi ho hx hy rfl rfl (by kernel_rfl) fun w=> ?_
 refine (run_neq_struct w 102 #[.int .i64 a0, .int .i64 a1, .int .i64 a2, .int .i64 a3] #[.int .i64 b0, .int .i64 b1, .int .i64 b2, .int .i64 b3]).trans ?_
 have hq:=Am1 9998 w a0 a1 a2 a3 b0 b1 b2 b3
 simp only [Nat.reduceAdd] at hq
 rw [hq]
 simp only [Result.andThen_ok,decide_not]
theorem Am0 (d:Nat) (w:World) (a0:Int) (a1:Int) (a2:Int) (a3:Int) (a4:Bool) (b0:Int) (b1:Int) (b2:Int) (b3:Int) (b4:Bool):(Op.equalIn (d+3) 138 (.agg #[.int .i64 a0, .int .i64 a1, .int .i64 a2, .int .i64 a3, .bool a4]) (.agg #[.int .i64 b0, .int .i64 b1, .int .i64 b2, .int .i64 b3, .bool b4])).run Tryz.prog w= .ok (decide ((a0=b0∧a1=b1∧a2=b2)∧a3=b3∧a4=b4)) w:=by
 rw [show d+3=(d+2)+1 from rfl,run_equalIn_struct w (d+2) 138 _ _ (by kernel_rfl) (by kernel_rfl),Ho Tryz.underlying138]
 exact Gl (by decide) (Xq Eo w rfl) (Xq Eo w rfl) (Vg (d) w _ _ _ _ _ _) (Gl (by decide) (Di Ah w rfl) (Di Ah w rfl) (F5 (d+1) 3 Tryz.underlying3 _ _) (Le (by decide) (Di K1 w rfl) (Di K1 w rfl) (Zt (d+1) 4 Tryz.underlying4 _ _)))
theorem V8 {t':TypeId} {o:Oper} {e:Operand→S} {h:Xh} {x y:Operand} {a0:Int} {a1:Int} {a2:Int} {a3:Int} {a4:Bool} {b0:Int} {b1:Int} {b2:Int} {b3:Int} {b4:Bool} (ho:o.op= .binOp .neq 138 x y t') (hx:e x= .d (.agg [.v (.int .i64 a0), .v (.int .i64 a1), .v (.int .i64 a2), .v (.int .i64 a3), .v (.bool a4)])) (hy:e y= .d (.agg [.v (.int .i64 b0), .v (.int .i64 b1), .v (.int .i64 b2), .v (.int .i64 b3), .v (.bool b4)])):Bm Tryz.prog o e h (.d (.v (.bool (decide (¬((a0=b0∧a1=b1∧a2=b2)∧a3=b3∧a4=b4)))))):=by
 refine Gi ho hx hy rfl rfl (by kernel_rfl) fun w=> ?_
 refine (run_neq_struct w 138 #[.int .i64 a0, .int .i64 a1, .int .i64 a2, .int .i64 a3, .bool a4] #[.int .i64 b0, .int .i64 b1, .int .i64 b2, .int .i64 b3, .bool b4]).trans ?_
 have hq:=Am0 9997 w a0 a1 a2 a3 a4 b0 b1 b2 b3 b4
 simp only [Nat.reduceAdd] at hq
 rw [hq]
 simp only [Result.andThen_ok,decide_not]
theorem Zs (d:Nat) (w:World) (a0:ByteArray) (a1:Int) (b0:ByteArray) (b1:Int):(Op.equalIn (d+2) 140 (.agg #[.string a0, .int .i64 a1]) (.agg #[.string b0, .int .i64 b1])).run Tryz.prog w= .ok (decide (a0.toList=b0.toList∧a1=b1)) w:=by
 rw [show d+2=(d+1)+1 from rfl,run_equalIn_struct w (d+1) 140 _ _ (by kernel_rfl) (by kernel_rfl),Ho Tryz.underlying140]
 exact Gl (by decide) (Di Kz w rfl) (Di Kz w rfl) (Apy (d+0) 9 Tryz.underlying9 _ _) (Le (by decide) (Di Ah w rfl) (Di Ah w rfl) (F5 (d+0) 3 Tryz.underlying3 _ _))
theorem Ajo {t':TypeId} {o:Oper} {e:Operand→S} {h:Xh} {x y:Operand} {a0:ByteArray} {a1:Int} {b0:ByteArray} {b1:Int} (ho:o.op= .binOp .eql 140 x y t') (hx:e x= .d (.agg [.v (.string a0), .v (.int .i64 a1)])) (hy:e y= .d (.agg [.v (.string b0), .v (.int .i64 b1)])):Bm Tryz.prog o e h (.d (.v (.bool (decide (a0.toList=b0.toList∧a1=b1))))):=by
 refine Gi ho hx hy rfl rfl (by kernel_rfl) fun w=> ?_
 refine (run_eql_struct w 140 #[.string a0, .int .i64 a1] #[.string b0, .int .i64 b1]).trans ?_
 have hq:=Zs 9998 w a0 a1 b0 b1
 simp only [Nat.reduceAdd] at hq
 rw [hq]
 simp only [Result.andThen_ok]
theorem V7 {t':TypeId} {o:Oper} {e:Operand→S} {h:Xh} {x y:Operand} {a0:ByteArray} {a1:Int} {b0:ByteArray} {b1:Int} (ho:o.op= .binOp .neq 140 x y t') (hx:e x= .d (.agg [.v (.string a0), .v (.int .i64 a1)])) (hy:e y= .d (.agg [.v (.string b0), .v (.int .i64 b1)])):Bm Tryz.prog o e h (.d (.v (.bool (decide (¬(a0.toList=b0.toList∧a1=b1)))))):=by
 refine Gi ho hx hy rfl rfl (by kernel_rfl) fun w=> ?_
 refine (run_neq_struct w 140 #[.string a0, .int .i64 a1] #[.string b0, .int .i64 b1]).trans ?_
 have hq:=Zs 9998 w a0 a1 b0 b1
 simp only [Nat.reduceAdd] at hq
 rw [hq]
 simp only [Result.andThen_ok,decide_not]
end Go.Proofs.YtcihalbakenleaaGreat
namespace Go.Proofs.YtcihalbakenleaaGreat
open Go.RowKit
def Bn (n m:Int):Int:=if n<0∨m<n then 2 else 0
theorem Te {n m:Int} (h:n<0∨m<n):2=Bn n m:=by rw [Bn,if_pos h]
theorem Agf {n m:Int} (h:¬n<0) (h':¬m<n):0=Bn n m:=by rw [Bn,if_neg (by omega)]
theorem Cz (n m:Int):XC Tryz.prog 116 [.v (.int .i64 n), .v (.int .i64 m)] (fun r=>r=dI (Bn n m)):=by
 refine Ap Abx Tryz.func116 R R lb<|zr<|za R R<|zn<|zs<|zr<|zm R R<|zp (At R R R)<|zm R R<|?_
 refine XL.dec 7 R (fun g7=> ?_) (fun g7=> ?_)
 exact zk 3 R<|zq R R R<|zn<|Ao (by kernel_rfl) R<|zr<|za R R<|zn<|zt<|z1 R R (rI (Te (by omega)))
 refine zm R R<|zm R R<|zp (A6 R R R)<|zq R R R<|zn<|?_
 refine zd R (fun c11=> ?_) (fun c11=> ?_)
 exact zr<|za R R<|zn<|zt<|z1 R R (rI (Te (by omega)))
 exact zi<|zr<|za R R<|zn<|zt<|z1 R R (rI (Agf g7 c11))
def Cx:List Int→Int
 | []=>0
 |e::l=>if e≠0 then e else Cx l
theorem Ada {l:List Int} {k:Nat} {x:Int} (h:l[k]? =some x) (hx:¬x≠0):Cx (l.drop k)=Cx (l.drop (k+1)):=by rw [Ct h,Cx,if_neg hx]
theorem Ahz {l:List Int} {k:Nat} {x:Int} (h:l[k]? =some x) (hx:x≠0):Cx (l.drop k)=x:=by rw [Ct h,Cx,if_pos hx]
theorem Ah0 {l:List Int} {k:Nat} (h:k=l.length):Cx (l.drop k)=0:=by rw [h,List.drop_length];rfl
theorem Je (l:List Int):XC Tryz.prog 115 [.sl 1 (Bu l)] (fun r=>r=dI (Cx l)):=by
 refine Ap Aby Tryz.func115 R R lb<|zr<|za R R<|zn<|zs<|zr<|zm R R<|XL.len R R R Tryz.underlying180 fun hl6=>zm R R<|zn<|Ag<|?_
 refine Ax (α:=Nat) (fun k=>k≤l.length∧Cx (l.drop k)=Cx l) (fun k=>mkF [(5, .d (.sl 1 (Bu l))),(6, .d (dI l.length)),(7, .d (dI k))]) (fun k=>mkH []) (fun k=>l.length - k) (0) (⟨Nat.zero_le _,by rw [List.drop_zero]⟩) ?_ ?_ ?_
 exact fz ⟨sr,sr,sr,trivial⟩
 exact HSub.nil
 intro k hk0
 obtain ⟨hk,hf⟩:=hk0
 refine zr<|zp (At R R R)<|zn<|zs<|?_
 refine zd R (fun c8=> ?_) (fun c8=> ?_)
 have hk0a:k<l.length:=by omega
 obtain ⟨x0,hx0⟩:=As hk0a
 refine zi<|zs<|Ag<|zr<|zp (Aj R R R Arp hx0)<|zp (Aw R R Ar8)<|za R R<|znr<|zm R R<|zp (Bc R R R)<|zn<|?_
 refine zd R (fun c12=> ?_) (fun c12=> ?_)
 exact zr<|zm R R<|za R R<|zn<|zt<|z1 R R (rI (by rw [←hf,Ahz hx0 c12]))
 refine zi<|Af (by kernel_rfl)<|zp (Ak R R R (by omega) (by omega))<|zm R R<|zn<|?_
 exact Al (k+1) (⟨by omega,by rw [←Ada hx0 c12];exact hf⟩) (by omega) (fz ⟨sr,sr,sr,trivial⟩) (HSub.nil)
 have hk0b:k=l.length:=by omega
 exact An<|zr<|za R R<|zn<|zt<|z1 R R (rI (by rw [←hf,Ah0 hk0b]))
def Hq (h:Hd):Int:=Cx [h.p.err,Bn h.sh 2]
theorem An9 (h:Hd):XC Tryz.prog 152 [.agg (Hd.c h)] (fun r=>r=dI (Hq h)):=by
 refine Ap Aa2 Tryz.func152 R R lb<|zr<|XL.step R (Ay 1 (l:= [.d (dI h.p.step), .d (dI h.p.alter), .d (dI h.p.oct), .d (dB h.tied), .d (dI h.sh)]) R R (by kernel_rfl))<|za R R<|znr<|zp (Aa R R F1)<|zp (Ad (s':= .d (.agg (Pit.c h.p))) (Ae (Ac R R Eo R lb)) (by kernel_rfl))<|XL.call1 R R (Px _) R<|zm R R<|zp (Bh R R R)<|zp (Bh R R R)<|?_
 exact za R R<|za R R<|znr<|zm R R<|zp (Aa R R M9)<|zp (Ab R R Ah R R)<|XL.call1 R R (Cz _ _) R<|XL.step R (Kd (l:=Bu [h.p.err,(Bn h.sh 2)]) R Tryz.underlying180 Nj J9 (by kernel_rfl) R (by omega) (by omega))<|XL.call1 R R (Je _) R<|za R R<|zn<|zt<|z1 R R (R)
def Jk (l:List Hd):Int:=match l.getLast? with|some h=>h.p.num|none=> -1
theorem Ja {l:List Hd} {k:Nat} {x:Hd} (h:l[k]? =some x):Jk (l.take (k+1))=x.p.num:=by rw [Bb h,Jk,List.getLast?_concat]
def Er (last:Int):List Hd→Int
 | []=>0
 |h::t=>if Hq h≠0 then Hq h else if h.p.num≤last then 25 else Er h.p.num t
def Cj (l:List Hd):Int:=if l.length=0 then 4 else if 10<l.length then 9 else Er (-1) l
theorem Hk {l:List Hd} (h1:¬(l.length:Int)=0) (h2:¬10<(l.length:Int)):Cj l=Er (-1) l:=by rw [Cj,if_neg (by omega),if_neg (by omega)]
theorem Zh (l:List Hd):XC Tryz.prog 121 [.sl 5 (l.map Hd.c)] (fun r=>r=dI (Cj l)):=by
 refine Ap Abs Tryz.func121 R R lb<|zr<|za R R<|zn<|zs<|Ag<|zr<|zm R R<|XL.len R R R Tryz.underlying48 fun hl11=>zp (Az R R R)<|za R R<|zn<|?_
 refine zd R (fun c9=> ?_) (fun c9=> ?_)
 exact zr<|za R R<|zn<|zt<|z1 R R (rI (by rw [Cj,if_pos (by omega)]))
 refine zr<|zm R R<|XL.len R R R Tryz.underlying48 fun hl15=>zp (A6 R R R)<|za R R<|zn<|?_
 refine zd R (fun c13=> ?_) (fun c13=> ?_)
 exact zr<|za R R<|zn<|zt<|z1 R R (rI (by rw [Cj,if_neg (by omega),if_pos (by omega)]))
 refine zi<|zr<|za R R<|zn<|zs<|zr<|zm R R<|XL.len R R R Tryz.underlying48 fun hl18=>zm R R<|zn<|Ag<|?_
 refine Ax (α:=Nat) (fun k=>k≤l.length∧Er (Jk (l.take k)) (l.drop k)=Er (-1) l) (fun k=>mkF [(3, .d (dI (Jk (l.take k)))),(17, .d (.sl 5 (l.map Hd.c))),(18, .d (dI l.length)),(19, .d (dI k))]) (fun k=>mkH []) (fun k=>l.length - k) (0) (⟨Nat.zero_le _,by rw [List.drop_zero];rfl⟩) ?_ ?_ ?_
 exact fz ⟨sr,sr,sr,sr,trivial⟩
 exact HSub.nil
 intro k hk1
 obtain ⟨hk,hf⟩:=hk1
 refine zr<|zp (At R R R)<|zn<|zs<|?_
 refine zd R (fun c20=> ?_) (fun c20=> ?_)
 have hk1a:k<l.length:=by omega
 obtain ⟨x1,hx1⟩:=As hk1a
 rw [Ct hx1,Er] at hf
 refine zi<|zs<|Ag<|zr<|zp (Aj R R R D9 hx1)<|zp (Ad (s':= .d (.agg (Hd.c x1))) (Ar R R Ks lb) (by kernel_rfl))<|XL.step R (A9 5 (l:= [.d (dI 0), .d (dI 0), .d (dI 0), .d (dB false), .d (dI 0)]) R Hu (by kernel_rfl))<|?_
 refine XL.step R (Ai (l':= [.d (dI x1.p.step), .d (dI x1.p.alter), .d (dI x1.p.oct), .d (dB x1.tied), .d (dI x1.sh)]) R R R R Ni R lb (by kernel_rfl))<|zn<|zs<|zr<|zp (Ad (s':= .d (.agg (Hd.c x1))) (Ae (Ac R R Ks R lb)) (by kernel_rfl))<|XL.call1 R R (An9 _) R<|za R R<|znr<|zm R R<|zp (Bc R R R)<|zn<|?_
 refine zd R (fun c26=> ?_) (fun c26=> ?_)
 exact zr<|zm R R<|za R R<|zn<|zt<|z1 R R (rI (by rw [Hk c9 c13, ←hf,if_pos c26]))
 refine zi<|zr<|zp (Aa R R F1)<|zp (Ad (s':= .d (.agg (Pit.c x1.p))) (Ae (Ac R R Eo R lb)) (by kernel_rfl))<|XL.call1 R R (Px _) R<|zm R R<|zp (Bh R R R)<|zp (Bh R R R)<|za R R<|za R R<|zn<|zs<|zr<|zm R R<|?_
 refine zm R R<|zp (Fk R R R)<|zn<|?_
 refine zd R (fun c36=> ?_) (fun c36=> ?_)
 exact zr<|za R R<|zn<|zt<|z1 R R (rI (by rw [Hk c9 c13, ←hf,if_neg c26,if_pos c36]))
 refine zi<|Af (by kernel_rfl)<|zm R R<|za R R<|zn<|Af (by kernel_rfl)<|zp (Ak R R R (by omega) (by omega))<|zm R R<|zn<|?_
 exact Al (k+1) (⟨by omega,by rw [if_neg c26,if_neg c36] at hf;rw [Ja hx1];exact hf⟩) (by omega) (fz ⟨.same (sI (Ja hx1).symm),sr,sr,sr,trivial⟩) (HSub.nil)
 have hk1b:k=l.length:=by omega
 exact An<|zr<|za R R<|zn<|zt<|z1 R R (rI (by rw [Hk c9 c13, ←hf,hk1b,List.drop_length];rfl))
def Io:List Gr→Int
 | []=>0
 |g::t=>if g.p.err≠0 then g.p.err else if g.log<1∨6<g.log then 2 else Io t
def Fa (l:List Gr):Int:=if 8<l.length then 9 else Io l
theorem Gz {l:List Gr} (h2:¬8<(l.length:Int)):Fa l=Io l:=by rw [Fa,if_neg (by omega)]
theorem Wx (l:List Gr):XC Tryz.prog 122 [.sl 5 (l.map Gr.c)] (fun r=>r=dI (Fa l)):=by
 refine Ap Abr Tryz.func122 R R lb<|zr<|za R R<|zn<|zs<|zr<|zm R R<|XL.len R R R Tryz.underlying57 fun hl8=>zp (A6 R R R)<|zn<|?_
 refine zd R (fun c9=> ?_) (fun c9=> ?_)
 exact zr<|za R R<|zn<|zt<|z1 R R (rI (by rw [Fa,if_pos (by omega)]))
 refine zi<|zs<|zr<|zm R R<|XL.len R R R Tryz.underlying57 fun hl11=>zm R R<|zn<|Ag<|?_
 refine Ax (α:=Nat) (fun k=>k≤l.length∧Io (l.drop k)=Io l) (fun k=>mkF [(10, .d (.sl 5 (l.map Gr.c))),(11, .d (dI l.length)),(12, .d (dI k))]) (fun k=>mkH []) (fun k=>l.length - k) (0) (⟨Nat.zero_le _,by rw [List.drop_zero]⟩) ?_ ?_ ?_
 exact fz ⟨sr,sr,sr,trivial⟩
 exact HSub.nil
 intro k hk0
 obtain ⟨hk,hf⟩:=hk0
 refine zr<|zp (At R R R)<|zn<|zs<|?_
 refine zd R (fun c13=> ?_) (fun c13=> ?_)
 have hk0a:k<l.length:=by omega
 obtain ⟨x0,hx0⟩:=As hk0a
 rw [Ct hx0,Io] at hf
 refine zi<|zs<|Ag<|zr<|zp (Aj R R R Py hx0)<|zp (Ad (s':= .d (.agg (Gr.c x0))) (Ar R R Ox lb) (by kernel_rfl))<|XL.step R (A9 4 (l:= [.d (dI 0), .d (dI 0), .d (dI 0), .d (dI 0), .d (dB false)]) R Xz (by kernel_rfl))<|?_
 refine XL.step R (Ai (l':= [.d (dI x0.p.step), .d (dI x0.p.alter), .d (dI x0.p.oct), .d (dI x0.log), .d (dB x0.slash)]) R R R R Air R lb (by kernel_rfl))<|zn<|zs<|zr<|zp (Aa R R Wz)<|zp (Ad (s':= .d (.agg (Pit.c x0.p))) (Ae (Ac R R Eo R lb)) (by kernel_rfl))<|XL.call1 R R (Px _) R<|zm R R<|zp (Bh R R R)<|zp (Bh R R R)<|za R R<|za R R<|znr<|?_
 refine zm R R<|zp (Bc R R R)<|zn<|?_
 refine zd R (fun c23=> ?_) (fun c23=> ?_)
 exact zr<|zm R R<|za R R<|zn<|zt<|z1 R R (rI (by rw [Gz c9, ←hf,if_pos c23]))
 refine zi<|zr<|zp (Aa R R Qx)<|zp (Ab R R Ah R R)<|zp (At R R R)<|zm R R<|?_
 refine XL.dec 28 R (fun g28=> ?_) (fun g28=> ?_)
 exact zk 3 R<|zq R R R<|zn<|Ao (by kernel_rfl) R<|zr<|za R R<|zn<|zt<|z1 R R (rI (by rw [Gz c9, ←hf,if_neg c23,if_pos (by omega)]))
 refine zp (Aa R R Qx)<|zp (Ab R R Ah R R)<|zp (A6 R R R)<|zq R R R<|zn<|?_
 refine zd R (fun c32=> ?_) (fun c32=> ?_)
 exact zr<|za R R<|zn<|zt<|z1 R R (rI (by rw [Gz c9, ←hf,if_neg c23,if_pos (by omega)]))
 refine zi<|Af (by kernel_rfl)<|zp (Ak R R R (by omega) (by omega))<|zm R R<|zn<|?_
 exact Al (k+1) (⟨by omega,by rw [if_neg c23,if_neg (by omega)] at hf;exact hf⟩) (by omega) (fz ⟨sr,sr,sr,trivial⟩) (HSub.nil)
 have hk0b:k=l.length:=by omega
 exact An<|zr<|za R R<|zn<|zt<|z1 R R (rI (by rw [Gz c9, ←hf,hk0b,List.drop_length];rfl))
def G9 (b:UInt8):Prop:=(b.toNat:Int)<32∨(b.toNat:Int)=127
instance (b:UInt8):Decidable (G9 b):=by unfold G9;exact inferInstance
def F7 (s:Sy):Int:=if s.link<0∨2<s.link then 2 else if 256<s.text.length then 5 else if ∃b∈s.text,G9 b then 6 else if s.text= []∧s.link=1 then 3 else 0
theorem E8 (l:List UInt8):(ByteArray.mk l.toArray).size=l.length:=rfl
theorem Uw {s:Sy} {k:Nat} {b:UInt8} (h1:¬s.link<0) (h2:¬2<s.link) (h3:¬256<(s.text.length:Int)) (h:s.text[k]? =some b) (hb:G9 b):6=F7 s:=by
 rw [F7,if_neg (by omega),if_neg (by omega),if_pos ⟨b,List.mem_of_getElem? h,hb⟩]
theorem Ae8 {s:Sy} (h1:¬s.link<0) (h2:¬2<s.link) (h3:¬256<(s.text.length:Int)) (h:∀j b,j<s.text.length→s.text[j]? =some b→¬G9 b):F7 s=if s.text= []∧s.link=1 then 3 else 0:=by
 rw [F7,if_neg (by omega),if_neg (by omega),if_neg]
 rintro ⟨b,hb,h4⟩
 obtain ⟨j,hj⟩:=List.getElem?_of_mem hb
 exact h j b (List.getElem?_eq_some_iff.1 hj).1 hj h4
theorem Kw {l:List UInt8}:((ByteArray.mk l.toArray).toList==(ByteArray.mk #[]).toList)=decide (l= []):=by
 rw [Lm,show (ByteArray.mk #[]).toList= [] from Lm []]
 by_cases h:l= []<;>simp [h]
end Go.Proofs.YtcihalbakenleaaGreat
namespace Go.Proofs.YtcihalbakenleaaGreat
open Go.RowKit
theorem Agb {b:UInt8} (h:(b.toNat:Int)<32):G9 b:= .inl h
theorem Acf {b:UInt8} (h:(b.toNat:Int)=127):G9 b:= .inr h
theorem Aga {b:UInt8} (h:¬(b.toNat:Int)<32) (h':¬(b.toNat:Int)=127):¬G9 b:=fun h2=>h2.elim h h'
theorem Aqf (s:Sy):XC Tryz.prog 154 [.agg (Sy.c s)] (fun r=>r=dI (F7 s)):=by
 refine Ap Aa0 Tryz.func154 R R lb<|zr<|XL.step R (Ay 1 (l:= [.d (.v (.string ⟨s.text.toArray⟩)), .d (dI s.link)]) R R (by kernel_rfl))<|za R R<|zn<|zs<|Ag<|zr<|zp (Aa R R Kh)<|zp (Ab R R Ah R R)<|zp (At R R R)<|zm R R<|?_
 refine XL.dec 8 R (fun g8=> ?_) (fun g8=> ?_)
 exact zk 3 R<|zq R R R<|za R R<|zn<|Ao (by kernel_rfl) R<|zr<|za R R<|zn<|zt<|z1 R R (rI (by rw [F7,if_pos (by omega)]))
 refine zp (Aa R R Kh)<|zp (Ab R R Ah R R)<|zp (A6 R R R)<|zq R R R<|za R R<|zn<|?_
 refine zd R (fun c4=> ?_) (fun c4=> ?_)
 exact zr<|za R R<|zn<|zt<|z1 R R (rI (by rw [F7,if_pos (by omega)]))
 refine zr<|zp (Aa R R Ge)<|zp (Ab R R Kz R R)<|zp (Nq R R Tryz.underlying9)<|zp (A6 R R R)<|za R R<|zn<|?_
 refine zd R (fun c13=> ?_) (fun c13=> ?_)
 exact zr<|za R R<|zn<|zt<|z1 R R (rI (by rw [F7,if_neg (by omega),if_pos (by have:=c13;rw [E8] at this;omega)]))
 refine zi<|zs<|zr<|zp (Aa R R Ge)<|zp (Ab R R Kz R R)<|zp (Nq R R Tryz.underlying9)<|zm R R<|zn<|Ag<|?_
 refine Ax (α:=Nat) (fun k=>k≤s.text.length∧∀j b,j<k→s.text[j]? =some b→¬G9 b) (fun k=>mkF [(1, .ptr 1 0 0),(20, .d (dI s.text.length)),(21, .d (dI k))]) (fun k=>mkH [(1, .box ((Sy.c s).map S.d))]) (fun k=>s.text.length - k) (0) (⟨Nat.zero_le _,fun j b h=>absurd h (Nat.not_lt_zero _)⟩) ?_ ?_ ?_
 exact fz ⟨sr, .same (sI (by rw [E8])),sr,trivial⟩
 exact gz ⟨R,trivial⟩
 intro k hk1
 obtain ⟨hk,hf⟩:=hk1
 refine zr<|zp (At R R R)<|zn<|zs<|?_
 refine zd R (fun c22=> ?_) (fun c22=> ?_)
 have hkl:k<s.text.length:=by omega
 have hsz:(s.text.length:Int)≤256:=by have:=c13;rw [E8] at this;omega
 obtain ⟨b,hb⟩:=As hkl
 refine zi<|zs<|Ag<|zr<|zm R R<|za R R<|znr<|zp (Aa R R Ge)<|zp (Ab R R Kz R R)<|zm R R<|zp (T6 R R R Tryz.underlying9 (O0 hb))<|zp (At R R R)<|zm R R<|?_
 refine XL.dec 29 R (fun g29=> ?_) (fun g29=> ?_)
 exact zk 5 R<|zq R R R<|zn<|Ao (by kernel_rfl) R<|zr<|za R R<|zn<|zt<|z1 R R (rI (Uw g8 c4 (by rw [←E8];exact c13) hb (Agb g29)))
 refine zp (Aa R R Ge)<|zp (Ab R R Kz R R)<|zm R R<|zp (T6 R R R Tryz.underlying9 (O0 hb))<|zp (Az R R R)<|zq R R R<|zn<|?_
 refine zd R (fun c35=> ?_) (fun c35=> ?_)
 exact zr<|za R R<|zn<|zt<|z1 R R (rI (Uw g8 c4 (by rw [←E8];exact c13) hb (Acf c35)))
 refine zi<|Af (by kernel_rfl)<|zp (Ak R R R (by omega) (by omega))<|zm R R<|zn<|?_
 exact Al (k+1) (⟨by omega,fun j b' hj hb'=>by by_cases e:j=k;(· subst e;rw [hb] at hb';cases hb';exact Aga g29 c35);(· exact hf j b' (by omega) hb')⟩) (by omega) (fz ⟨sr,sr,sr,trivial⟩) (gz ⟨rfl,trivial⟩)
 have hke:k=s.text.length:=by omega
 have he:=Ae8 g8 c4 (by rw [←E8];exact c13) (fun j b hj=>hf j b (by omega))
 refine An<|zs<|zr<|zp (Aa R R Ge)<|zp (Ab R R Kz R R)<|zp (U3 R R R)<|zm R R<|?_
 refine XL.bool 40 R (fun g40=> ?_) (fun g40=> ?_)
 refine zp (Aa R R Kh)<|zp (Ab R R Ah R R)<|zp (Az R R R)<|zq R R R<|zn<|?_
 refine zd R (fun c44=> ?_) (fun c44=> ?_)
 exact zr<|za R R<|zn<|zt<|z1 R R (rI (by rw [Kw] at g40;rw [he,if_pos ⟨of_decide_eq_true g40,c44⟩]))
 exact zi<|zr<|za R R<|zn<|zt<|z1 R R (rI (by rw [he,if_neg (fun h=>c44 h.2)]))
 exact zk 3 R<|zq R R R<|zn<|A3 (by kernel_rfl) R<|zi<|zr<|za R R<|zn<|zt<|z1 R R (rI (by rw [Kw] at g40;rw [he,if_neg (fun h=>of_decide_eq_false g40 h.1)]))
def Sy.none (s:Sy):Prop:=s.text= []∧s.link=0
instance (s:Sy):Decidable s.none:=by unfold Sy.none;exact inferInstance
theorem Akz (s:Sy):XC Tryz.prog 155 [.agg (Sy.c s)] (fun r=>r=dB (decide s.none)):=by
 refine Ap Aaz Tryz.func155 R R lb<|zr<|XL.step R (Ay 1 (l:= [.d (.v (.string ⟨s.text.toArray⟩)), .d (dI s.link)]) R R (by kernel_rfl))<|za R R<|znr<|zp (Ad (s':= .d (.agg (Sy.c s))) (Ae (Ac R R Iv R lb)) (by kernel_rfl))<|zp (Ad (s':= .d (.agg [.v (.string ⟨#[]⟩),dI 0])) (Ae (Bv R Aol Oy R)) (by kernel_rfl))<|?_
 exact zp (Ajo R R R)<|za R R<|zn<|zt<|z1 R R (rB (by rw [decide_eq_decide,Lm,show (ByteArray.mk #[]).toList= [] from Lm []];rfl))
def G5 (l:List Sy):Int:=Cx (l.map F7)
theorem Pq {l:List Sy} {k:Nat} {x:Sy} (h:l[k]? =some x) (hx:¬F7 x≠0):G5 (l.drop k)=G5 (l.drop (k+1)):=by rw [Ct h,G5,List.map_cons,Cx,if_neg hx];rfl
theorem Wr {l:List Sy} {k:Nat} {x:Sy} (h:l[k]? =some x) (hx:F7 x≠0):G5 (l.drop k)=F7 x:=by rw [Ct h,G5,List.map_cons,Cx,if_pos hx]
def Im (l:List Sy):Prop:=match l.getLast? with|some s=>s.none|none=>False
instance (l:List Sy):Decidable (Im l):=by unfold Im;split<;>exact inferInstance
def Gy (l:List Sy):Int:=if 4<l.length then 9 else if G5 l≠0 then G5 l else if Im l then 3 else 0
theorem Nt {l:List Sy} (h1:¬4<(l.length:Int)):Gy l=if G5 l≠0 then G5 l else if Im l then 3 else 0:=by rw [Gy,if_neg (by omega)]
theorem Li {l:List Sy} {s:Sy} (h:l[l.length - 1]? =some s):Im l↔s.none:=by unfold Im;rw [List.getLast?_eq_getElem?,h]
theorem Qr {l:List Sy} (h:¬0<(l.length:Int)):¬Im l:=by
 have:l= []:=List.eq_nil_of_length_eq_zero (by omega)
 subst this;exact fun h=>h
theorem Wq (l:List Sy):XC Tryz.prog 123 [.sl 2 (l.map Sy.c)] (fun r=>r=dI (Gy l)):=by
 refine Ap Abq Tryz.func123 R R lb<|zr<|za R R<|zn<|zs<|zr<|zm R R<|XL.len R R R Tryz.underlying58 fun hl8=>zp (A6 R R R)<|zn<|?_
 refine zd R (fun c9=> ?_) (fun c9=> ?_)
 exact zr<|za R R<|zn<|zt<|z1 R R (rI (by rw [Gy,if_pos (by omega)]))
 refine zi<|zs<|zr<|zm R R<|XL.len R R R Tryz.underlying58 fun hl11=>zm R R<|zn<|Ag<|?_
 refine Ax (α:=Nat) (fun k=>k≤l.length∧G5 (l.drop k)=G5 l) (fun k=>mkF [(0, .d (.sl 2 (l.map Sy.c))),(10, .d (.sl 2 (l.map Sy.c))),(11, .d (dI l.length)),(12, .d (dI k))]) (fun k=>mkH []) (fun k=>l.length - k) (0) (⟨Nat.zero_le _,by rw [List.drop_zero]⟩) ?_ ?_ ?_
 exact fz ⟨sr,sr,sr,sr,trivial⟩
 exact HSub.nil
 intro k hk0
 obtain ⟨hk,hf⟩:=hk0
 refine zr<|zp (At R R R)<|zn<|zs<|?_
 refine zd R (fun c13=> ?_) (fun c13=> ?_)
 have hk0a:k<l.length:=by omega
 obtain ⟨x0,hx0⟩:=As hk0a
 refine zi<|zs<|Ag<|zr<|zp (Aj R R R N3 hx0)<|zp (Ad (s':= .d (.agg (Sy.c x0))) (Ar R R Iv lb) (by kernel_rfl))<|XL.step R (A9 4 (l:= [.d (.v (.string ⟨#[]⟩)), .d (dI 0)]) R Oy (by kernel_rfl))<|XL.step R (Ai (l':= [.d (.v (.string ⟨x0.text.toArray⟩)), .d (dI x0.link)]) R R R R X7 R lb (by kernel_rfl))<|znr<|?_
 refine zp (Ad (s':= .d (.agg (Sy.c x0))) (Ae (Ac R R Iv R lb)) (by kernel_rfl))<|XL.call1 R R (Aqf _) R<|za R R<|znr<|zm R R<|zp (Bc R R R)<|zn<|?_
 refine zd R (fun c19=> ?_) (fun c19=> ?_)
 exact zr<|zm R R<|za R R<|zn<|zt<|z1 R R (rI (by rw [Nt c9, ←hf,Wr hx0 c19,if_pos c19]))
 refine zi<|Af (by kernel_rfl)<|zp (Ak R R R (by omega) (by omega))<|zm R R<|zn<|?_
 exact Al (k+1) (⟨by omega,by rw [←Pq hx0 c19];exact hf⟩) (by omega) (fz ⟨sr,sr,sr,sr,trivial⟩) (HSub.nil)
 have hk0b:k=l.length:=by omega
 have hz:G5 l=0:=by rw [←hf,hk0b,List.drop_length];rfl
 have hz2:Gy l=if Im l then 3 else 0:=by rw [Nt c9,hz,if_neg (by simp)]
 refine An<|zs<|zr<|zm R R<|XL.len R R R Tryz.underlying58 fun hl23=>za R R<|znr<|zm R R<|zp (A6 R R R)<|zm R R<|?_
 refine XL.dec 26 R (fun g26=> ?_) (fun g26=> ?_)
 obtain ⟨s,hs⟩:∃s,l[l.length - 1]? =some s:=As (by omega)
 refine zm R R<|zm R R<|zp (C7 R R R (by omega) (by omega))<|zp (Dl R R R (by omega:(l.length:Int) - 1=((l.length - 1:Nat):Int)) N3 hs)<|zp (Ad (s':= .d (.agg (Sy.c s))) (Ar R R Iv lb) (by kernel_rfl))<|XL.call1 R R (Akz _) R<|zq R R R<|zn<|?_
 refine zd R (fun c33=> ?_) (fun c33=> ?_)
 exact zr<|za R R<|zn<|zt<|z1 R R (rI (by rw [hz2,if_pos ((Li hs).2 c33)]))
 exact zi<|zr<|za R R<|zn<|zt<|z1 R R (rI (by rw [hz2,if_neg (fun h=>c33 ((Li hs).1 h))]))
 exact zk 6 R<|zq R R R<|zn<|A3 (by kernel_rfl) R<|zi<|zr<|za R R<|zn<|zt<|z1 R R (rI (by rw [hz2,if_neg (Qr g26)]))
theorem Hf {α:Type} {a b:List α} (hl:a.length=b.length) (h:∀j x y,j<a.length→a[j]? =some x→b[j]? =some y→x=y):a=b:=by
 refine List.ext_getElem? fun j=> ?_
 by_cases hj:j<a.length
 ·have h1:a[j]? =some a[j]:=List.getElem?_eq_getElem hj
  have h2 : b[j]? = some (b[j]'(by omega)) := List.getElem?_eq_getElem (by omega)
  rw [h1,h2,h j _ _ hj h1 h2]
 ·rw [List.getElem?_eq_none (by omega),List.getElem?_eq_none (by omega)]
theorem Ro {α:Type} [DecidableEq α] {a b:List α} (h:a≠b):false=decide (a=b):=by rw [decide_eq_false h]
theorem Zu {α:Type} [DecidableEq α] {a b:List α} (h:a=b):true=decide (a=b):=by rw [decide_eq_true h]
theorem Hd.eq_of {x y:Hd} (h:¬ ¬((x.p.step=y.p.step∧x.p.alter=y.p.alter∧x.p.oct=y.p.oct)∧x.tied=y.tied∧x.sh=y.sh)):x=y:=by
 obtain ⟨⟨a,b,c⟩,d,e⟩:=x;obtain ⟨⟨a',b',c'⟩,d',e'⟩:=y;simp only [Decidable.not_not] at h;obtain ⟨⟨rfl,rfl,rfl⟩,rfl,rfl⟩:=h;rfl
theorem Hd.ne_of {x y:Hd} (h:¬((x.p.step=y.p.step∧x.p.alter=y.p.alter∧x.p.oct=y.p.oct)∧x.tied=y.tied∧x.sh=y.sh)):x≠y:=by rintro rfl;exact h ⟨⟨rfl,rfl,rfl⟩,rfl,rfl⟩
theorem Gr.eq_of {x y:Gr} (h:¬ ¬((x.p.step=y.p.step∧x.p.alter=y.p.alter∧x.p.oct=y.p.oct)∧x.log=y.log∧x.slash=y.slash)):x=y:=by
 obtain ⟨⟨a,b,c⟩,d,e⟩:=x;obtain ⟨⟨a',b',c'⟩,d',e'⟩:=y;simp only [Decidable.not_not] at h;obtain ⟨⟨rfl,rfl,rfl⟩,rfl,rfl⟩:=h;rfl
theorem Gr.ne_of {x y:Gr} (h:¬((x.p.step=y.p.step∧x.p.alter=y.p.alter∧x.p.oct=y.p.oct)∧x.log=y.log∧x.slash=y.slash)):x≠y:=by rintro rfl;exact h ⟨⟨rfl,rfl,rfl⟩,rfl,rfl⟩
theorem Sy.eq_of {x y:Sy} (h:¬ ¬((ByteArray.mk x.text.toArray).toList=(ByteArray.mk y.text.toArray).toList∧x.link=y.link)):x=y:=by
 obtain ⟨a,b⟩:=x;obtain ⟨a',b'⟩:=y;simp only [Decidable.not_not,Lm] at h;obtain ⟨rfl,rfl⟩:=h;rfl
theorem Sy.ne_of {x y:Sy} (h:¬((ByteArray.mk x.text.toArray).toList=(ByteArray.mk y.text.toArray).toList∧x.link=y.link)):x≠y:=by rintro rfl;exact h ⟨rfl,rfl⟩
theorem Amy (a b:List Hd):XC Tryz.prog 148 [.sl 5 (a.map Hd.c), .sl 5 (b.map Hd.c)] (fun r=>r=dB (decide (a=b))):=by
 refine Ap Aa6 Tryz.func148 R R lb<|zr<|za R R<|zn<|zs<|zr<|zm R R<|XL.len R R R Tryz.underlying48 fun hl7=>zm R R<|XL.len R R R Tryz.underlying48 fun hl9=>zp (Bc R R R)<|zn<|?_
 refine zd R (fun c10=> ?_) (fun c10=> ?_)
 exact zr<|za R R<|zn<|zt<|z1 R R (rB (Ro (fun h=>c10 (by rw [h]))))
 refine zi<|zs<|zr<|zm R R<|XL.len R R R Tryz.underlying48 fun hl12=>zm R R<|zn<|Ag<|?_
 refine Ax (α:=Nat) (fun k=>k≤a.length∧∀j x y,j<k→a[j]? =some x→b[j]? =some y→x=y) (fun k=>mkF [(0, .d (.sl 5 (a.map Hd.c))),(1, .d (.sl 5 (b.map Hd.c))),(12, .d (dI a.length)),(13, .d (dI k))]) (fun k=>mkH []) (fun k=>a.length - k) (0) (⟨Nat.zero_le _,fun j x y h=>absurd h (Nat.not_lt_zero _)⟩) ?_ ?_ ?_
 exact fz ⟨sr,sr,sr,sr,trivial⟩
 exact HSub.nil
 intro k hk0
 obtain ⟨hk,hf⟩:=hk0
 refine zr<|zp (At R R R)<|zn<|zs<|?_
 refine zd R (fun c14=> ?_) (fun c14=> ?_)
 have hk0a:k<a.length:=by omega
 obtain ⟨x,hx0⟩:=As hk0a
 obtain ⟨y,hy⟩:∃y,b[k]? =some y:=As (by omega)
 refine zi<|zs<|Ag<|zr<|zm R R<|za R R<|zn<|zs<|A8 [] (by kernel_rfl) (by kernel_rfl) (by kernel_rfl) (by decide)<|ym R R<|ym R R<|yp (Aj R R R D9 hx0)<|yp (Ad (s':= .d (.agg (Hd.c x))) (Ar R R Ks lb) (by kernel_rfl))<|ym R R<|?_
 refine ym R R<|yp (Aj R R R D9 (hy))<|yp (Ad (s':= .d (.agg (Hd.c y))) (Ar R R Ks lb) (by kernel_rfl))<|yp (Yv R R R)<|?_
 refine ChK.nil ⟨by kernel_rfl, ?_⟩
 refine zd R (fun c24=> ?_) (fun c24=> ?_)
 exact zr<|za R R<|zn<|zt<|z1 R R (rB (Ro (fun h=>Hd.ne_of c24 (by rw [h] at hx0;rw [hx0] at hy;cases hy;rfl))))
 refine zi<|Af (by kernel_rfl)<|zp (Ak R R R (by omega) (by omega))<|zm R R<|zn<|?_
 exact Al (k+1) (⟨by omega,fun j x' y' hj hx' hy'=>by by_cases e:j=k;(· subst e;rw [hx0] at hx';rw [hy] at hy';cases hx';cases hy';exact Hd.eq_of c24);(· exact hf j x' y' (by omega) hx' hy')⟩) (by omega) (fz ⟨sr,sr,sr,sr,trivial⟩) (HSub.nil)
 have hk0b:k=a.length:=by omega
 exact An<|zr<|za R R<|zn<|zt<|z1 R R (rB (Zu (Hf (by omega) (fun j x y hj=>hf j x y (by omega)))))
theorem Amz (a b:List Gr):XC Tryz.prog 149 [.sl 5 (a.map Gr.c), .sl 5 (b.map Gr.c)] (fun r=>r=dB (decide (a=b))):=by
 refine Ap Aa5 Tryz.func149 R R lb<|zr<|za R R<|zn<|zs<|zr<|zm R R<|XL.len R R R Tryz.underlying57 fun hl7=>zm R R<|XL.len R R R Tryz.underlying57 fun hl9=>zp (Bc R R R)<|zn<|?_
 refine zd R (fun c10=> ?_) (fun c10=> ?_)
 exact zr<|za R R<|zn<|zt<|z1 R R (rB (Ro (fun h=>c10 (by rw [h]))))
 refine zi<|zs<|zr<|zm R R<|XL.len R R R Tryz.underlying57 fun hl12=>zm R R<|zn<|Ag<|?_
 refine Ax (α:=Nat) (fun k=>k≤a.length∧∀j x y,j<k→a[j]? =some x→b[j]? =some y→x=y) (fun k=>mkF [(0, .d (.sl 5 (a.map Gr.c))),(1, .d (.sl 5 (b.map Gr.c))),(12, .d (dI a.length)),(13, .d (dI k))]) (fun k=>mkH []) (fun k=>a.length - k) (0) (⟨Nat.zero_le _,fun j x y h=>absurd h (Nat.not_lt_zero _)⟩) ?_ ?_ ?_
 exact fz ⟨sr,sr,sr,sr,trivial⟩
 exact HSub.nil
 intro k hk0
 obtain ⟨hk,hf⟩:=hk0
 refine zr<|zp (At R R R)<|zn<|zs<|?_
 refine zd R (fun c14=> ?_) (fun c14=> ?_)
 have hk0a:k<a.length:=by omega
 obtain ⟨x,hx0⟩:=As hk0a
 obtain ⟨y,hy⟩:∃y,b[k]? =some y:=As (by omega)
 refine zi<|zs<|Ag<|zr<|zm R R<|za R R<|zn<|zs<|A8 [] (by kernel_rfl) (by kernel_rfl) (by kernel_rfl) (by decide)<|ym R R<|ym R R<|yp (Aj R R R Py hx0)<|yp (Ad (s':= .d (.agg (Gr.c x))) (Ar R R Ox lb) (by kernel_rfl))<|ym R R<|?_
 refine ym R R<|yp (Aj R R R Py (hy))<|yp (Ad (s':= .d (.agg (Gr.c y))) (Ar R R Ox lb) (by kernel_rfl))<|yp (V8 R R R)<|?_
 refine ChK.nil ⟨by kernel_rfl, ?_⟩
 refine zd R (fun c24=> ?_) (fun c24=> ?_)
 exact zr<|za R R<|zn<|zt<|z1 R R (rB (Ro (fun h=>Gr.ne_of c24 (by rw [h] at hx0;rw [hx0] at hy;cases hy;rfl))))
 refine zi<|Af (by kernel_rfl)<|zp (Ak R R R (by omega) (by omega))<|zm R R<|zn<|?_
 exact Al (k+1) (⟨by omega,fun j x' y' hj hx' hy'=>by by_cases e:j=k;(· subst e;rw [hx0] at hx';rw [hy] at hy';cases hx';cases hy';exact Gr.eq_of c24);(· exact hf j x' y' (by omega) hx' hy')⟩) (by omega) (fz ⟨sr,sr,sr,sr,trivial⟩) (HSub.nil)
 have hk0b:k=a.length:=by omega
 exact An<|zr<|za R R<|zn<|zt<|z1 R R (rB (Zu (Hf (by omega) (fun j x y hj=>hf j x y (by omega)))))
theorem Amx (a b:List Sy):XC Tryz.prog 150 [.sl 2 (a.map Sy.c), .sl 2 (b.map Sy.c)] (fun r=>r=dB (decide (a=b))):=by
 refine Ap Aa4 Tryz.func150 R R lb<|zr<|za R R<|zn<|zs<|zr<|zm R R<|XL.len R R R Tryz.underlying58 fun hl7=>zm R R<|XL.len R R R Tryz.underlying58 fun hl9=>zp (Bc R R R)<|zn<|?_
 refine zd R (fun c10=> ?_) (fun c10=> ?_)
 exact zr<|za R R<|zn<|zt<|z1 R R (rB (Ro (fun h=>c10 (by rw [h]))))
 refine zi<|zs<|zr<|zm R R<|XL.len R R R Tryz.underlying58 fun hl12=>zm R R<|zn<|Ag<|?_
 refine Ax (α:=Nat) (fun k=>k≤a.length∧∀j x y,j<k→a[j]? =some x→b[j]? =some y→x=y) (fun k=>mkF [(0, .d (.sl 2 (a.map Sy.c))),(1, .d (.sl 2 (b.map Sy.c))),(12, .d (dI a.length)),(13, .d (dI k))]) (fun k=>mkH []) (fun k=>a.length - k) (0) (⟨Nat.zero_le _,fun j x y h=>absurd h (Nat.not_lt_zero _)⟩) ?_ ?_ ?_
 exact fz ⟨sr,sr,sr,sr,trivial⟩
 exact HSub.nil
 intro k hk0
 obtain ⟨hk,hf⟩:=hk0
 refine zr<|zp (At R R R)<|zn<|zs<|?_
 refine zd R (fun c14=> ?_) (fun c14=> ?_)
 have hk0a:k<a.length:=by omega
 obtain ⟨x,hx0⟩:=As hk0a
 obtain ⟨y,hy⟩:∃y,b[k]? =some y:=As (by omega)
 refine zi<|zs<|Ag<|zr<|zm R R<|za R R<|zn<|zs<|A8 [] (by kernel_rfl) (by kernel_rfl) (by kernel_rfl) (by decide)<|ym R R<|ym R R<|yp (Aj R R R N3 hx0)<|yp (Ad (s':= .d (.agg (Sy.c x))) (Ar R R Iv lb) (by kernel_rfl))<|ym R R<|?_
 refine ym R R<|yp (Aj R R R N3 (hy))<|yp (Ad (s':= .d (.agg (Sy.c y))) (Ar R R Iv lb) (by kernel_rfl))<|yp (V7 R R R)<|?_
 refine ChK.nil ⟨by kernel_rfl, ?_⟩
 refine zd R (fun c24=> ?_) (fun c24=> ?_)
 exact zr<|za R R<|zn<|zt<|z1 R R (rB (Ro (fun h=>Sy.ne_of c24 (by rw [h] at hx0;rw [hx0] at hy;cases hy;rfl))))
 refine zi<|Af (by kernel_rfl)<|zp (Ak R R R (by omega) (by omega))<|zm R R<|zn<|?_
 exact Al (k+1) (⟨by omega,fun j x' y' hj hx' hy'=>by by_cases e:j=k;(· subst e;rw [hx0] at hx';rw [hy] at hy';cases hx';cases hy';exact Sy.eq_of c24);(· exact hf j x' y' (by omega) hx' hy')⟩) (by omega) (fz ⟨sr,sr,sr,sr,trivial⟩) (HSub.nil)
 have hk0b:k=a.length:=by omega
 exact An<|zr<|za R R<|zn<|zt<|z1 R R (rB (Zu (Hf (by omega) (fun j x y hj=>hf j x y (by omega)))))
theorem W6 (n:Int):XC Tryz.prog 117 [.v (.int .i64 n)] (fun r=>r=dB (decide (1≤n∧n≤4))):=by
 refine Ap Abw Tryz.func117 R R lb<|zr<|za R R<|znr<|zm R R<|zp (Ed R R R)<|zm R R<|?_
 refine XL.dec 5 R (fun g5=> ?_) (fun g5=> ?_)
 exact zm R R<|zp (Fk R R R)<|zq R R R<|za R R<|zn<|zt<|z1 R R (rB (by rw [decide_eq_decide];omega))
 exact zk 2 R<|zq R R R<|za R R<|zn<|zt<|z1 R R (rB (by rw [eq_comm,decide_eq_false_iff_not];omega))
def Et (n:Int):Int:=if n<0 then 0 else if n / 16 % 2=1 then 16 else 0
theorem Akm {n:Int} (h:¬n<0):((n.toNat &&& (16:Int).toNat:Nat):Int)=Et n:=by
 rw [show (16:Int).toNat=2 ^ 4 from rfl,Ap5,Et,if_neg h]
 split<;>split<;>omega
theorem Af5 (n:Int) (hn:n≤9223372036854775807):XC Tryz.prog 151 [.v (.int .i64 n)] (fun r=>r=dI (Et n)):=by
 refine Ap Aa3 Tryz.func151 R R lb<|zr<|za R R<|zn<|zs<|zr<|zm R R<|zp (At R R R)<|zn<|?_
 refine zd R (fun c4=> ?_) (fun c4=> ?_)
 exact zr<|za R R<|zn<|zt<|z1 R R (rI (by rw [Et,if_pos c4]))
 exact zi<|zr<|zm R R<|zp (Anp R R R (by omega) (by omega) (by omega) (by omega))<|za R R<|zn<|zt<|z1 R R (rI (Akm c4))
end Go.Proofs.YtcihalbakenleaaGreat
namespace Go.Proofs.YtcihalbakenleaaGreat
open Go.RowKit
def Ev.same (a b:Ev):Prop:=a.kind=b.kind∧a.v=b.v∧a.art=b.art∧a.orn=b.orn∧a.dyn=b.dyn∧a.stem=b.stem∧a.beam=b.beam∧a.heads=b.heads∧a.graces=b.graces∧a.lyr=b.lyr
instance (a b:Ev):Decidable (a.same b):=by unfold Ev.same;exact inferInstance
theorem Val.eq_of {x y:Val} (h:x.log=y.log∧x.dots=y.dots):x=y:=by obtain ⟨a,b⟩:=x;obtain ⟨c,d⟩:=y;obtain ⟨rfl,rfl⟩:=h;rfl
theorem Dx {a b:Ev} (h:¬a.same b):false=decide (a.same b):=by rw [decide_eq_false h]
theorem Afd (a b:Ev):XC Tryz.prog 118 [.agg (Ev.c a), .agg (Ev.c b)] (fun r=>r=dB (decide (a.same b))):=by
 refine Ap Abv Tryz.func118 R R lb<|zr<|XL.step R (Ay 2 (l:= [.d (dI a.site), .d (dI a.num), .d (dI a.kind), .d (dI a.v.log), .d (dI a.v.dots), .d (.sl 5 (a.heads.map Hd.c)), .d (.sl 5 (a.graces.map Gr.c)), .d (dI a.art), .d (dI a.orn), .d (dI a.dyn), .d (.sl 2 (a.lyr.map Sy.c)), .d (dI a.stem), .d (dI a.beam)]) R R (by kernel_rfl))<|?_
 refine XL.step R (Ay 3 (l:= [.d (dI b.site), .d (dI b.num), .d (dI b.kind), .d (dI b.v.log), .d (dI b.v.dots), .d (.sl 5 (b.heads.map Hd.c)), .d (.sl 5 (b.graces.map Gr.c)), .d (dI b.art), .d (dI b.orn), .d (dI b.dyn), .d (.sl 2 (b.lyr.map Sy.c)), .d (dI b.stem), .d (dI b.beam)]) R R (by kernel_rfl))<|za R R<|znr<|zp (Aa R R Bp)<|zp (Ab R R Ah R R)<|?_
 refine zp (Aa R R Bp)<|zp (Ab R R Ah R R)<|zp (Az R R R)<|zm R R<|?_
 refine XL.dec 10 R (fun g10=> ?_) (fun g10=> ?_)
 refine zp (Aa R R Cs)<|zp (Ad (s':= .d (.agg (Val.c a.v))) (Ae (Ac R R Ck R lb)) (by kernel_rfl))<|zp (Aa R R Cs)<|zp (Ad (s':= .d (.agg (Val.c b.v))) (Ae (Ac R R Ck R lb)) (by kernel_rfl))<|zp (Ph R R R)<|zq R R R<|zm R R<|?_
 refine XL.dec 17 R (fun g17=> ?_) (fun g17=> ?_)
 refine zp (Aa R R Cw)<|zp (Ab R R Ah R R)<|zp (Aa R R Cw)<|zp (Ab R R Ah R R)<|zp (Az R R R)<|zq R R R<|zm R R<|?_
 refine XL.dec 24 R (fun g24=> ?_) (fun g24=> ?_)
 refine zp (Aa R R F2)<|zp (Ab R R Ah R R)<|zp (Aa R R F2)<|zp (Ab R R Ah R R)<|zp (Az R R R)<|zq R R R<|zm R R<|?_
 refine XL.dec 31 R (fun g31=> ?_) (fun g31=> ?_)
 refine zp (Aa R R D2)<|zp (Ab R R Ah R R)<|zp (Aa R R D2)<|zp (Ab R R Ah R R)<|zp (Az R R R)<|zq R R R<|zm R R<|?_
 refine XL.dec 38 R (fun g38=> ?_) (fun g38=> ?_)
 refine zp (Aa R R Do)<|zp (Ab R R Ah R R)<|zp (Aa R R Do)<|zp (Ab R R Ah R R)<|zp (Az R R R)<|zq R R R<|zm R R<|?_
 refine XL.dec 45 R (fun g45=> ?_) (fun g45=> ?_)
 refine zp (Aa R R Fb)<|zp (Ab R R Ah R R)<|zp (Aa R R Fb)<|zp (Ab R R Ah R R)<|zp (Az R R R)<|zq R R R<|zm R R<|?_
 refine XL.dec 52 R (fun g52=> ?_) (fun g52=> ?_)
 refine zp (Aa R R Ba)<|zp (Ab R R Cn R R)<|zp (Aa R R Ba)<|zp (Ab R R Cn R R)<|XL.call1 R R (Amy _ _) R<|zq R R R<|zm R R<|?_
 refine XL.dec 59 R (fun g59=> ?_) (fun g59=> ?_)
 refine zp (Aa R R El)<|zp (Ab R R Ih R R)<|zp (Aa R R El)<|zp (Ab R R Ih R R)<|XL.call1 R R (Amz _ _) R<|zq R R R<|zm R R<|?_
 refine XL.dec 66 R (fun g66=> ?_) (fun g66=> ?_)
 exact zp (Aa R R Ek)<|zp (Ab R R Ig R R)<|zp (Aa R R Ek)<|zp (Ab R R Ig R R)<|XL.call1 R R (Amx _ _) R<|zq R R R<|za R R<|zn<|zt<|z1 R R (rB (by rw [decide_eq_decide];exact ⟨fun h=>⟨g10,Val.eq_of g17,g24,g31,g38,g45,g52,g59,g66,h⟩,fun h=>h.2.2.2.2.2.2.2.2.2⟩))
 exact zk 5 R<|zq R R R<|za R R<|zn<|zt<|z1 R R (rB (Dx fun h=>g66 h.2.2.2.2.2.2.2.2.1))
 exact zk 5 R<|zq R R R<|zm R R<|zk 5 R<|zq R R R<|za R R<|zn<|zt<|z1 R R (rB (Dx fun h=>g59 h.2.2.2.2.2.2.2.1))
 exact zk 5 R<|zq R R R<|zm R R<|zk 5 R<|zq R R R<|zm R R<|zk 5 R<|zq R R R<|za R R<|zn<|zt<|z1 R R (rB (Dx fun h=>g52 h.2.2.2.2.2.2.1))
 exact zk 5 R<|zq R R R<|zm R R<|zk 5 R<|zq R R R<|zm R R<|zk 5 R<|zq R R R<|zm R R<|zk 5 R<|zq R R R<|za R R<|zn<|zt<|z1 R R (rB (Dx fun h=>g45 h.2.2.2.2.2.1))
 refine zk 5 R<|zq R R R<|zm R R<|zk 5 R<|zq R R R<|zm R R<|zk 5 R<|zq R R R<|zm R R<|zk 5 R<|zq R R R<|zm R R<|zk 5 R<|zq R R R<|?_
 exact za R R<|zn<|zt<|z1 R R (rB (Dx fun h=>g38 h.2.2.2.2.1))
 refine zk 5 R<|zq R R R<|zm R R<|zk 5 R<|zq R R R<|zm R R<|zk 5 R<|zq R R R<|zm R R<|zk 5 R<|zq R R R<|zm R R<|zk 5 R<|zq R R R<|?_
 exact zm R R<|zk 5 R<|zq R R R<|za R R<|zn<|zt<|z1 R R (rB (Dx fun h=>g31 h.2.2.2.1))
 refine zk 5 R<|zq R R R<|zm R R<|zk 5 R<|zq R R R<|zm R R<|zk 5 R<|zq R R R<|zm R R<|zk 5 R<|zq R R R<|zm R R<|zk 5 R<|zq R R R<|?_
 exact zm R R<|zk 5 R<|zq R R R<|zm R R<|zk 5 R<|zq R R R<|za R R<|zn<|zt<|z1 R R (rB (Dx fun h=>g24 h.2.2.1))
 refine zk 5 R<|zq R R R<|zm R R<|zk 5 R<|zq R R R<|zm R R<|zk 5 R<|zq R R R<|zm R R<|zk 5 R<|zq R R R<|zm R R<|zk 5 R<|zq R R R<|?_
 exact zm R R<|zk 5 R<|zq R R R<|zm R R<|zk 5 R<|zq R R R<|zm R R<|zk 5 R<|zq R R R<|za R R<|zn<|zt<|z1 R R (rB (Dx fun h=>g17 (by rw [h.2.1];exact ⟨rfl,rfl⟩)))
 refine zk 5 R<|zq R R R<|zm R R<|zk 5 R<|zq R R R<|zm R R<|zk 5 R<|zq R R R<|zm R R<|zk 5 R<|zq R R R<|zm R R<|zk 5 R<|zq R R R<|?_
 refine zm R R<|zk 5 R<|zq R R R<|zm R R<|zk 5 R<|zq R R R<|zm R R<|zk 5 R<|zq R R R<|zm R R<|zk 5 R<|zq R R R<|za R R<|zn<|?_
 exact zt<|z1 R R (rB (Dx fun h=>g10 h.1))
def Ev.strip (e:Ev):Ev:=
 if e.kind=1∨¬(1≤e.kind∧e.kind≤4) then e else
 ⟨e.site,e.num,e.kind,if e.kind≠3 then e.v else ⟨0,0⟩, [], [],if e.kind≠4 then Et e.art else 0,0,e.dyn, [],0,0⟩
theorem Rb {e:Ev} (h:e.kind=1):e=e.strip:=by rw [Ev.strip,if_pos (.inl h)]
theorem Aok {e:Ev} (h:¬(1≤e.kind∧e.kind≤4)):e=e.strip:=by rw [Ev.strip,if_pos (.inr h)]
theorem Aoj {e:Ev} (h:¬e.kind=1) (h2:¬ ¬(1≤e.kind∧e.kind≤4)) (h3:e.kind≠3) (h4:e.kind≠4):(⟨e.site,e.num,e.kind,e.v, [], [],Et e.art,0,e.dyn, [],0,0⟩:Ev)=e.strip:=by rw [Ev.strip,if_neg (by omega),if_pos h3,if_pos h4]
theorem Aoi {e:Ev} (h:¬e.kind=1) (h2:¬ ¬(1≤e.kind∧e.kind≤4)) (h3:e.kind≠3) (h4:¬e.kind≠4):(⟨e.site,e.num,e.kind,e.v, [], [],0,0,e.dyn, [],0,0⟩:Ev)=e.strip:=by rw [Ev.strip,if_neg (by omega),if_pos h3,if_neg h4]
theorem Aoh {e:Ev} (h:¬e.kind=1) (h2:¬ ¬(1≤e.kind∧e.kind≤4)) (h3:¬e.kind≠3) (h4:e.kind≠4):(⟨e.site,e.num,e.kind,⟨0,0⟩, [], [],Et e.art,0,e.dyn, [],0,0⟩:Ev)=e.strip:=by rw [Ev.strip,if_neg (by omega),if_neg h3,if_pos h4]
theorem Bk {a b:Ev} (h:a=b):D.agg (Ev.c a)= .agg (Ev.c b):=by rw [h]
theorem Ale (e:Ev) (he:e.art≤9223372036854775807):XC Tryz.prog 119 [.agg (Ev.c e)] (fun r=>r= .agg (Ev.c e.strip)):=by
 refine Ap Abu Tryz.func119 R R lb<|zr<|XL.step R (Ay 1 (l:= [.d (dI e.site), .d (dI e.num), .d (dI e.kind), .d (dI e.v.log), .d (dI e.v.dots), .d (.sl 5 (e.heads.map Hd.c)), .d (.sl 5 (e.graces.map Gr.c)), .d (dI e.art), .d (dI e.orn), .d (dI e.dyn), .d (.sl 2 (e.lyr.map Sy.c)), .d (dI e.stem), .d (dI e.beam)]) R R (by kernel_rfl))<|?_
 refine XL.step R (A9 2 (l:= [.d (dI 0), .d (dI 0), .d (dI 0), .d (dI 0), .d (dI 0), .d (.v (.slice none 0 0)), .d (.v (.slice none 0 0)), .d (dI 0), .d (dI 0), .d (dI 0), .d (.v (.slice none 0 0)), .d (dI 0), .d (dI 0)]) R B3 (by kernel_rfl))<|zn<|zs<|zr<|zp (Aa R R Bp)<|zp (Ab R R Ah R R)<|zp (Az R R R)<|zm R R<|?_
 refine XL.dec 7 R (fun g7=> ?_) (fun g7=> ?_)
 refine zk 4 R<|zq R R R<|zn<|Ao (by kernel_rfl) R<|zr<|zp (Ad (s':= .d (.agg (Ev.c e))) (Ae (Ac R R A1 R lb)) (by kernel_rfl))<|?_
 refine XL.step R (Ai (l':= [.d (dI e.site), .d (dI e.num), .d (dI e.kind), .d (dI e.v.log), .d (dI e.v.dots), .d (.sl 5 (e.heads.map Hd.c)), .d (.sl 5 (e.graces.map Gr.c)), .d (dI e.art), .d (dI e.orn), .d (dI e.dyn), .d (.sl 2 (e.lyr.map Sy.c)), .d (dI e.stem), .d (dI e.beam)]) R R R R B4 R lb (by kernel_rfl))<|zn<|zt<|?_
 exact Ft R (RV.cells R R R A1 lb R) (Bk (Rb g7))
 refine zp (Aa R R Bp)<|zp (Ab R R Ah R R)<|XL.call1 R R (W6 _) R<|zp (Bo R R)<|zq R R R<|zn<|?_
 refine zd R (fun c12=> ?_) (fun c12=> ?_)
 refine zr<|zp (Ad (s':= .d (.agg (Ev.c e))) (Ae (Ac R R A1 R lb)) (by kernel_rfl))<|?_
 refine XL.step R (Ai (l':= [.d (dI e.site), .d (dI e.num), .d (dI e.kind), .d (dI e.v.log), .d (dI e.v.dots), .d (.sl 5 (e.heads.map Hd.c)), .d (.sl 5 (e.graces.map Gr.c)), .d (dI e.art), .d (dI e.orn), .d (dI e.dyn), .d (.sl 2 (e.lyr.map Sy.c)), .d (dI e.stem), .d (dI e.beam)]) R R R R B4 R lb (by kernel_rfl))<|zn<|zt<|?_
 exact Ft R (RV.cells R R R A1 lb R) (Bk (Aok c12))
 refine zi<|zr<|zp (Aa R R Em)<|zp (Ad (s':= .d (.agg [dI e.site,dI e.num])) (Ae (Ac R R Jh R lb)) (by kernel_rfl))<|zp (Aa R R Bp)<|zp (Ab R R Ah R R)<|zp (Aa R R D2)<|zp (Ab R R Ah R R)<|?_
 refine zp (Ad (s':= .d (.agg [dI e.site,dI e.num,dI e.kind,dI 0,dI 0, .v (.slice none 0 0), .v (.slice none 0 0),dI 0,dI 0,dI e.dyn, .v (.slice none 0 0),dI 0,dI 0])) (Ae (Bv R Mt B3 R)) (by kernel_rfl))<|?_
 refine XL.step R (A9 3 (l:= [.d (dI 0), .d (dI 0), .d (dI 0), .d (dI 0), .d (dI 0), .d (.v (.slice none 0 0)), .d (.v (.slice none 0 0)), .d (dI 0), .d (dI 0), .d (dI 0), .d (.v (.slice none 0 0)), .d (dI 0), .d (dI 0)]) R B3 (by kernel_rfl))<|?_
 refine XL.step R (Ai (l':= [.d (dI e.site), .d (dI e.num), .d (dI e.kind), .d (dI 0), .d (dI 0), .d (.v (.slice none 0 0)), .d (.v (.slice none 0 0)), .d (dI 0), .d (dI 0), .d (dI e.dyn), .d (.v (.slice none 0 0)), .d (dI 0), .d (dI 0)]) R R R R B4 R lb (by kernel_rfl))<|zn<|zs<|zr<|zp (Aa R R Bp)<|zp (Ab R R Ah R R)<|zp (Bc R R R)<|zn<|?_
 refine zd R (fun c23=> ?_) (fun c23=> ?_)
 refine Af (by kernel_rfl)<|zp (Aa R R Cs)<|zp (Ad (s':= .d (.agg (Val.c e.v))) (Ae (Ac R R Ck R lb)) (by kernel_rfl))<|zp (Aa R R Cs)<|?_
 refine XL.step R (Ai (l':= [.d (dI e.site), .d (dI e.num), .d (dI e.kind), .d (dI e.v.log), .d (dI e.v.dots), .d (.v (.slice none 0 0)), .d (.v (.slice none 0 0)), .d (dI 0), .d (dI 0), .d (dI e.dyn), .d (.v (.slice none 0 0)), .d (dI 0), .d (dI 0)]) R R R R D1 R lb (by kernel_rfl))<|zn<|zs<|zr<|zp (Aa R R Bp)<|zp (Ab R R Ah R R)<|zp (Bc R R R)<|zn<|?_
 refine zd R (fun c29=> ?_) (fun c29=> ?_)
 refine Af (by kernel_rfl)<|zp (Aa R R Cw)<|zp (Ab R R Ah R R)<|XL.call1 R R (Af5 _ (by assumption)) R<|zp (Aa R R Cw)<|?_
 refine XL.step R (Ai (l':= [.d (dI e.site), .d (dI e.num), .d (dI e.kind), .d (dI e.v.log), .d (dI e.v.dots), .d (.v (.slice none 0 0)), .d (.v (.slice none 0 0)), .d (dI (Et e.art)), .d (dI 0), .d (dI e.dyn), .d (.v (.slice none 0 0)), .d (dI 0), .d (dI 0)]) R R R R C0 R lb (by kernel_rfl))<|znr<|?_
 refine zp (Ad (s':= .d (.agg [dI e.site,dI e.num,dI e.kind,dI e.v.log,dI e.v.dots, .v (.slice none 0 0), .v (.slice none 0 0),dI (Et e.art),dI 0,dI e.dyn, .v (.slice none 0 0),dI 0,dI 0])) (Ae (Ac R R A1 R lb)) (by kernel_rfl))<|?_
 refine XL.step R (Ai (l':= [.d (dI e.site), .d (dI e.num), .d (dI e.kind), .d (dI e.v.log), .d (dI e.v.dots), .d (.v (.slice none 0 0)), .d (.v (.slice none 0 0)), .d (dI (Et e.art)), .d (dI 0), .d (dI e.dyn), .d (.v (.slice none 0 0)), .d (dI 0), .d (dI 0)]) R R R R B4 R lb (by kernel_rfl))<|zn<|zt<|?_
 exact Ft R (RV.sub (RV.cells R R R A1 lb R) (.agg (.cons (.same R) (.cons (.same R) (.cons (.same R) (.cons (.same R) (.cons (.same R) (.cons (.nil 5) (.cons (.nil 5) (.cons (.same R) (.cons (.same R) (.cons (.same R) (.cons (.nil 2) (.cons (.same R) (.cons (.same R) (.nil)))))))))))))))) (Bk (Aoj g7 c12 c23 c29))
 refine zi<|zr<|zp (Ad (s':= .d (.agg [dI e.site,dI e.num,dI e.kind,dI e.v.log,dI e.v.dots, .v (.slice none 0 0), .v (.slice none 0 0),dI 0,dI 0,dI e.dyn, .v (.slice none 0 0),dI 0,dI 0])) (Ae (Ac R R A1 R lb)) (by kernel_rfl))<|?_
 refine XL.step R (Ai (l':= [.d (dI e.site), .d (dI e.num), .d (dI e.kind), .d (dI e.v.log), .d (dI e.v.dots), .d (.v (.slice none 0 0)), .d (.v (.slice none 0 0)), .d (dI 0), .d (dI 0), .d (dI e.dyn), .d (.v (.slice none 0 0)), .d (dI 0), .d (dI 0)]) R R R R B4 R lb (by kernel_rfl))<|zn<|zt<|?_
 exact Ft R (RV.sub (RV.cells R R R A1 lb R) (.agg (.cons (.same R) (.cons (.same R) (.cons (.same R) (.cons (.same R) (.cons (.same R) (.cons (.nil 5) (.cons (.nil 5) (.cons (.same R) (.cons (.same R) (.cons (.same R) (.cons (.nil 2) (.cons (.same R) (.cons (.same R) (.nil)))))))))))))))) (Bk (Aoi g7 c12 c23 c29))
 refine zi<|zs<|zr<|zp (Aa R R Bp)<|zp (Ab R R Ah R R)<|zp (Bc R R R)<|zn<|?_
 refine zd R (fun c29=> ?_) (fun c29=> ?_)
 refine Af (by kernel_rfl)<|zp (Aa R R Cw)<|zp (Ab R R Ah R R)<|XL.call1 R R (Af5 _ (by assumption)) R<|zp (Aa R R Cw)<|?_
 refine XL.step R (Ai (l':= [.d (dI e.site), .d (dI e.num), .d (dI e.kind), .d (dI 0), .d (dI 0), .d (.v (.slice none 0 0)), .d (.v (.slice none 0 0)), .d (dI (Et e.art)), .d (dI 0), .d (dI e.dyn), .d (.v (.slice none 0 0)), .d (dI 0), .d (dI 0)]) R R R R C0 R lb (by kernel_rfl))<|znr<|?_
 refine zp (Ad (s':= .d (.agg [dI e.site,dI e.num,dI e.kind,dI 0,dI 0, .v (.slice none 0 0), .v (.slice none 0 0),dI (Et e.art),dI 0,dI e.dyn, .v (.slice none 0 0),dI 0,dI 0])) (Ae (Ac R R A1 R lb)) (by kernel_rfl))<|?_
 refine XL.step R (Ai (l':= [.d (dI e.site), .d (dI e.num), .d (dI e.kind), .d (dI 0), .d (dI 0), .d (.v (.slice none 0 0)), .d (.v (.slice none 0 0)), .d (dI (Et e.art)), .d (dI 0), .d (dI e.dyn), .d (.v (.slice none 0 0)), .d (dI 0), .d (dI 0)]) R R R R B4 R lb (by kernel_rfl))<|zn<|zt<|?_
 exact Ft R (RV.sub (RV.cells R R R A1 lb R) (.agg (.cons (.same R) (.cons (.same R) (.cons (.same R) (.cons (.same R) (.cons (.same R) (.cons (.nil 5) (.cons (.nil 5) (.cons (.same R) (.cons (.same R) (.cons (.same R) (.cons (.nil 2) (.cons (.same R) (.cons (.same R) (.nil)))))))))))))))) (Bk (Aoh g7 c12 c23 c29))
 refine zi<|zr<|zp (Ad (s':= .d (.agg [dI e.site,dI e.num,dI e.kind,dI 0,dI 0, .v (.slice none 0 0), .v (.slice none 0 0),dI 0,dI 0,dI e.dyn, .v (.slice none 0 0),dI 0,dI 0])) (Ae (Ac R R A1 R lb)) (by kernel_rfl))<|?_
 refine XL.step R (Ai (l':= [.d (dI e.site), .d (dI e.num), .d (dI e.kind), .d (dI 0), .d (dI 0), .d (.v (.slice none 0 0)), .d (.v (.slice none 0 0)), .d (dI 0), .d (dI 0), .d (dI e.dyn), .d (.v (.slice none 0 0)), .d (dI 0), .d (dI 0)]) R R R R B4 R lb (by kernel_rfl))<|zn<|zt<|?_
 exact Ft R (RV.sub (RV.cells R R R A1 lb R) (.agg (.cons (.same R) (.cons (.same R) (.cons (.same R) (.cons (.same R) (.cons (.same R) (.cons (.nil 5) (.cons (.nil 5) (.cons (.same R) (.cons (.same R) (.cons (.same R) (.cons (.nil 2) (.cons (.same R) (.cons (.same R) (.nil)))))))))))))))) (by exfalso;omega)
def Da (v:Val):Int:=if -1≤v.log∧v.log≤8∧0≤v.dots∧v.dots≤3 then 0 else 17
theorem Nf {v:Val} (h:¬(-1≤v.log∧v.log≤8∧0≤v.dots∧v.dots≤3)):17=Da v:=by rw [Da,if_neg h]
theorem P9 {v:Val} (h: -1≤v.log∧v.log≤8∧0≤v.dots∧v.dots≤3):0=Da v:=by rw [Da,if_pos h]
theorem Nr {v:Val} (h:¬Da v≠0): -1≤v.log∧v.log≤8∧0≤v.dots∧v.dots≤3:=by
 unfold Da at h;split at h
 ·assumption
 ·omega
theorem Xa (v:Val):XC Tryz.prog 120 [.agg (Val.c v)] (fun r=>r=dI (Da v)):=by
 refine Ap Abt Tryz.func120 R R lb<|zr<|XL.step R (Ay 1 (l:= [.d (dI v.log), .d (dI v.dots)]) R R (by kernel_rfl))<|za R R<|zn<|zs<|zr<|zp (Aa R R Ld)<|zp (Ab R R Ah R R)<|zp (At R R R)<|zm R R<|?_
 refine XL.dec 6 R (fun g6=> ?_) (fun g6=> ?_)
 exact zk 3 R<|zq R R R<|zm R R<|zk 3 R<|zq R R R<|zm R R<|zk 3 R<|zq R R R<|zn<|Ao (by kernel_rfl) R<|zr<|za R R<|zn<|zt<|z1 R R (rI (Nf (by omega)))
 refine zp (Aa R R Ld)<|zp (Ab R R Ah R R)<|zp (A6 R R R)<|zq R R R<|zm R R<|?_
 refine XL.dec 11 R (fun g11=> ?_) (fun g11=> ?_)
 exact zk 3 R<|zq R R R<|zm R R<|zk 3 R<|zq R R R<|zn<|Ao (by kernel_rfl) R<|zr<|za R R<|zn<|zt<|z1 R R (rI (Nf (by omega)))
 refine zp (Aa R R Hl)<|zp (Ab R R Ah R R)<|zp (At R R R)<|zq R R R<|zm R R<|?_
 refine XL.dec 16 R (fun g16=> ?_) (fun g16=> ?_)
 exact zk 3 R<|zq R R R<|zn<|Ao (by kernel_rfl) R<|zr<|za R R<|zn<|zt<|z1 R R (rI (Nf (by omega)))
 refine zp (Aa R R Hl)<|zp (Ab R R Ah R R)<|zp (A6 R R R)<|zq R R R<|zn<|?_
 refine zd R (fun c20=> ?_) (fun c20=> ?_)
 exact zr<|za R R<|zn<|zt<|z1 R R (rI (Nf (by omega)))
 exact zi<|zr<|za R R<|zn<|zt<|z1 R R (rI (P9 (by omega)))
def Ew (p:Int):Nat→Int × Int
 |0=>(p,p)
 |n+1=>((Ew p n).1 / 2,(Ew p n).2+(Ew p n).1 / 2)
theorem Kj {p:Int} (h0:0≤p) (n:Nat):0≤(Ew p n).1∧(Ew p n).1≤p∧0≤(Ew p n).2∧(Ew p n).2≤p*(n+1):=by
 induction n with
 |zero=>simp [Ew];omega
 |succ n ih=>
  have e:p*((n+1:Nat)+1:Int)=p*(n+1)+p:=by rw [Int.natCast_add,Int.mul_add];simp
  simp only [Ew]
  rw [e]
  omega
def Dz (v:Val):Int:=3870720 / 2 ^ (v.log+1).toNat
def B8 (v:Val):Int:=(Ew (Dz v) v.dots.toNat).2
theorem Lh (v:Val):0≤Dz v∧Dz v≤3870720:=by
 unfold Dz
 have h:(0:Int)<2 ^ (v.log+1).toNat:=Int.pow_pos (by omega)
 exact ⟨Int.ediv_nonneg (by omega) (by omega),Int.ediv_le_self _ (by omega)⟩
theorem W8 (v:Val) (hv: -1≤v.log∧v.log≤8∧0≤v.dots∧v.dots≤3):XC Tryz.prog 170 [.agg (Val.c v)] (fun r=>r=dI (B8 v)):=by
 have hp:=Lh v
 refine Ap Aam Tryz.func170 R R lb<|zr<|XL.step R (Ay 1 (l:= [.d (dI v.log), .d (dI v.dots)]) R R (by kernel_rfl))<|za R R<|znr<|zp (Aa R R Ld)<|zp (Ab R R Ah R R)<|zp (Ak R R R (by omega) (by omega))<|zp (Xr R R R (by omega) (by omega))<|za R R<|znr<|zm R R<|za R R<|zn<|?_
 refine zs<|zr<|zp (Aa R R Hl)<|zp (Ab R R Ah R R)<|zm R R<|zn<|Ag<|?_
 refine Ax (α:=Nat) (fun k=>(k:Int)≤v.dots) (fun k=>mkF [(2, .d (dI 0)),(3, .d (dI (Ew (Dz v) k).1)),(4, .d (dI (Ew (Dz v) k).2)),(11, .d (dI v.dots)),(12, .d (dI k))]) (fun k=>mkH []) (fun k=>v.dots.toNat - k) (0) (hv.2.2.1) ?_ ?_ ?_
 exact fz ⟨sr,sr,sr,sr,sr,trivial⟩
 exact HSub.nil
 intro k hk0
 refine zr<|zp (At R R R)<|zn<|zs<|?_
 refine zd R (fun c13=> ?_) (fun c13=> ?_)
 have hb:=Kj hp.1 k
 have hb2:Dz v*((k:Int)+1)≤3870720*4:=Int.mul_le_mul hp.2 (by omega) (by omega) (by omega)
 refine zi<|zs<|Ag<|zr<|zm R R<|zp (F9 R R R (by omega) (by omega) (by omega))<|za R R<|zng<|zm R R<|zm R R<|zp (Ak R R R (by omega) (by omega))<|za R R<|zn<|Af (by kernel_rfl)<|?_
 refine zp (Ak R R R (by omega) (by omega))<|zm R R<|zn<|?_
 exact Al (k+1) (by omega) (by omega) (fz ⟨sr,sr,sr,sr,sr,trivial⟩) (HSub.nil)
 have hke:v.dots.toNat=k:=by omega
 exact An<|zr<|zm R R<|za R R<|zn<|zt<|z1 R R (rI (by rw [B8,hke]))
def P8 (v:Val):Int:=if Da v=0 then B8 v else 0
theorem Aod {v:Val} (h:Da v≠0):0=P8 v:=by rw [P8,if_neg h]
theorem Ae5 {v:Val} (h:¬Da v≠0):B8 v=P8 v∧0=Da v:=⟨by rw [P8,if_pos (by omega)],by omega⟩
theorem Akt (v:Val):XC Tryz.prog 180 [.agg (Val.c v)] (fun r=>r= .tup [dI (P8 v),dI (Da v)]):=by
 refine Ap Aac Tryz.func180 R R lb<|zr<|XL.step R (Ay 1 (l:= [.d (dI v.log), .d (dI v.dots)]) R R (by kernel_rfl))<|za R R<|za R R<|zn<|zs<|zr<|zp (Ad (s':= .d (.agg (Val.c v))) (Ae (Ac R R Ck R lb)) (by kernel_rfl))<|XL.call1 R R (Xa _) R<|za R R<|znr<|zm R R<|zp (Bc R R R)<|?_
 refine zn<|?_
 refine zd R (fun c8=> ?_) (fun c8=> ?_)
 refine zr<|zm R R<|za R R<|za R R<|zn<|zt<|?_
 exact Bs R (RV.tmp R R) (RV.tmp R R) (r2 (rI (Aod c8)) R)
 refine zi<|zs<|?_
 have hv:=Nr c8
 refine Af (by kernel_rfl)<|zp (Ad (s':= .d (.agg (Val.c v))) (Ae (Ac R R Ck R lb)) (by kernel_rfl))<|XL.call1 R R (W8 _ (by assumption)) R<|za R R<|za R R<|zn<|zt<|?_
 exact Bs R (RV.tmp R R) (RV.tmp R R) (r2 (rI (Ae5 c8).1) (rI (Ae5 c8).2))
def Ev.e1 (e:Ev):Int:=Cx [Bn e.site 99,Bn e.num 1073741824]
def Ev.e2 (e:Ev):Int:=Cx [Cj e.heads,Fa e.graces,Gy e.lyr]
def Ev.e3 (e:Ev):Int:=Cx [Bn e.art 31,Bn e.orn 4,Bn e.dyn 9,Bn e.stem 2,Bn e.beam 2]
def Ev.err (e:Ev):Int:=
 if e.e1≠0 then e.e1 else if ¬(1≤e.kind∧e.kind≤4) then 11 else if ¬e.same e.strip then 3 else if e.kind≠3∧Da e.v≠0 then 17
 else if e.kind=1∧e.e2≠0 then e.e2 else e.e3
theorem Asp {e:Ev} (h:e.e1≠0):e.e1=e.err:=by rw [Ev.err,if_pos h]
theorem Anv {e:Ev} (h:¬e.e1≠0) (h2:¬(1≤e.kind∧e.kind≤4)):11=e.err:=by rw [Ev.err,if_neg h,if_pos h2]
theorem Anu {e:Ev} (h:¬e.e1≠0) (h2:¬ ¬(1≤e.kind∧e.kind≤4)) (h3:¬e.same e.strip):3=e.err:=by rw [Ev.err,if_neg h,if_neg h2,if_pos h3]
theorem Ant {e:Ev} (h:¬e.e1≠0) (h2:¬ ¬(1≤e.kind∧e.kind≤4)) (h3:¬ ¬e.same e.strip) (h4:e.kind≠3) (h5:Da e.v≠0):17=e.err:=by rw [Ev.err,if_neg h,if_neg h2,if_neg h3,if_pos ⟨h4,h5⟩]
theorem Ans {e:Ev} (h:¬e.e1≠0) (h2:¬ ¬(1≤e.kind∧e.kind≤4)) (h3:¬ ¬e.same e.strip) (h4:¬(e.kind≠3∧Da e.v≠0)) (h5:e.kind=1) (h6:e.e2≠0):e.e2=e.err:=by rw [Ev.err,if_neg h,if_neg h2,if_neg h3,if_neg h4,if_pos ⟨h5,h6⟩]
theorem Xw {e:Ev} (h:¬e.e1≠0) (h2:¬ ¬(1≤e.kind∧e.kind≤4)) (h3:¬ ¬e.same e.strip) (h4:¬(e.kind≠3∧Da e.v≠0)) (h5:¬(e.kind=1∧e.e2≠0)):e.e3=e.err:=by rw [Ev.err,if_neg h,if_neg h2,if_neg h3,if_neg h4,if_neg h5]
theorem Qz (e:Ev) (he:e.art≤9223372036854775807):XC Tryz.prog 75 [.agg (Ev.c e)] (fun r=>r=dI e.err):=by
 refine Ap Ads Tryz.func75 R R lb<|zr<|XL.step R (Ay 1 (l:= [.d (dI e.site), .d (dI e.num), .d (dI e.kind), .d (dI e.v.log), .d (dI e.v.dots), .d (.sl 5 (e.heads.map Hd.c)), .d (.sl 5 (e.graces.map Gr.c)), .d (dI e.art), .d (dI e.orn), .d (dI e.dyn), .d (.sl 2 (e.lyr.map Sy.c)), .d (dI e.stem), .d (dI e.beam)]) R R (by kernel_rfl))<|za R R<|zn<|zs<|zs<|?_
 refine A8 [] (by kernel_rfl) (by kernel_rfl) (by kernel_rfl) (by decide)<|yp (Aa R R Em)<|yp (Aa R R Zo)<|yp (Ab R R Ah R R)<|ChK.cons R (CStep.call R (Cz _ _) R)<|yp (Aa R R Em)<|yp (Aa R R Zn)<|yp (Ab R R Ah R R)<|ChK.cons R (CStep.call R (Cz _ _) R)<|?_
 refine ChK.cons R (CStep.slice (l:=Bu [(Bn e.site 99),(Bn e.num 1073741824)]) R Tryz.underlying180 Nj J9 (by kernel_rfl) R (by omega) (by omega))<|ChK.cons R (CStep.call R (Je _) R)<|ya R R<|?_
 refine ChK.nil ⟨by kernel_rfl, ?_⟩
 refine zr<|zm R R<|zp (Bc R R R)<|zn<|?_
 refine zd R (fun c16=> ?_) (fun c16=> ?_)
 exact zr<|zm R R<|za R R<|zn<|zt<|z1 R R (rI (Asp c16))
 refine zi<|zs<|zr<|zp (Aa R R Bp)<|zp (Ab R R Ah R R)<|XL.call1 R R (W6 _) R<|zp (Bo R R)<|zn<|?_
 refine zd R (fun c21=> ?_) (fun c21=> ?_)
 exact zr<|za R R<|zn<|zt<|z1 R R (rI (Anv c16 c21))
 refine zi<|zs<|zs<|A8 [] (by kernel_rfl) (by kernel_rfl) (by kernel_rfl) (by decide)<|yp (Ad (s':= .d (.agg (Ev.c e))) (Ae (Ac R R A1 R lb)) (by kernel_rfl))<|yp (Ad (s':= .d (.agg (Ev.c e))) (Ae (Ac R R A1 R lb)) (by kernel_rfl))<|ChK.cons R (CStep.call R (Ale _ (by assumption)) R)<|ChK.cons R (CStep.call R (Afd _ _) R)<|?_
 refine yp (Bo R R)<|?_
 refine ChK.nil ⟨by kernel_rfl, ?_⟩
 refine zd R (fun c26=> ?_) (fun c26=> ?_)
 exact zr<|za R R<|zn<|zt<|z1 R R (rI (Anu c16 c21 c26))
 refine zi<|zs<|zr<|zp (Aa R R Bp)<|zp (Ab R R Ah R R)<|zp (Bc R R R)<|zm R R<|?_
 refine XL.dec 30 R (fun g30=> ?_) (fun g30=> ?_)
 refine zp (Aa R R Cs)<|zp (Ad (s':= .d (.agg (Val.c e.v))) (Ae (Ac R R Ck R lb)) (by kernel_rfl))<|XL.call1 R R (Xa _) R<|zp (Bc R R R)<|zq R R R<|zn<|?_
 refine zd R (fun c35=> ?_) (fun c35=> ?_)
 exact zr<|za R R<|zn<|zt<|z1 R R (rI (Ant c16 c21 c26 g30 c35))
 refine zi<|zs<|zr<|zp (Aa R R Bp)<|zp (Ab R R Ah R R)<|zp (Az R R R)<|zn<|?_
 refine zd R (fun c38=> ?_) (fun c38=> ?_)
 refine zs<|A8 [] (by kernel_rfl) (by kernel_rfl) (by kernel_rfl) (by decide)<|yp (Aa R R Ba)<|yp (Ab R R Cn R R)<|ChK.cons R (CStep.call R (Zh _) R)<|yp (Aa R R El)<|yp (Ab R R Ih R R)<|ChK.cons R (CStep.call R (Wx _) R)<|yp (Aa R R Ek)<|yp (Ab R R Ig R R)<|ChK.cons R (CStep.call R (Wq _) R)<|?_
 refine ChK.cons R (CStep.slice (l:=Bu [(Cj e.heads),(Fa e.graces),(Gy e.lyr)]) R Tryz.underlying180 Nj J9 (by kernel_rfl) R (by omega) (by omega))<|ChK.cons R (CStep.call R (Je _) R)<|ya R R<|?_
 refine ChK.nil ⟨by kernel_rfl, ?_⟩
 refine zr<|zm R R<|zp (Bc R R R)<|zn<|?_
 refine zd R (fun c51=> ?_) (fun c51=> ?_)
 exact zr<|zm R R<|za R R<|zn<|zt<|z1 R R (rI (Ans c16 c21 c26 (fun h=>c35 h.2) c38 c51))
 refine zi<|zs<|A8 [] (by kernel_rfl) (by kernel_rfl) (by kernel_rfl) (by decide)<|yp (Aa R R Cw)<|yp (Ab R R Ah R R)<|ChK.cons R (CStep.call R (Cz _ _) R)<|yp (Aa R R F2)<|yp (Ab R R Ah R R)<|ChK.cons R (CStep.call R (Cz _ _) R)<|yp (Aa R R D2)<|yp (Ab R R Ah R R)<|ChK.cons R (CStep.call R (Cz _ _) R)<|?_
 refine yp (Aa R R Do)<|yp (Ab R R Ah R R)<|ChK.cons R (CStep.call R (Cz _ _) R)<|yp (Aa R R Fb)<|yp (Ab R R Ah R R)<|ChK.cons R (CStep.call R (Cz _ _) R)<|?_
 refine ChK.cons R (CStep.slice (l:=Bu [(Bn e.art 31),(Bn e.orn 4),(Bn e.dyn 9),(Bn e.stem 2),(Bn e.beam 2)]) R Tryz.underlying180 Nj J9 (by kernel_rfl) R (by omega) (by omega))<|ChK.cons R (CStep.call R (Je _) R)<|ya R R<|?_
 refine ChK.nil ⟨by kernel_rfl, ?_⟩
 exact zt<|z1 R R (rI (Xw c16 c21 c26 (fun h=>c35 h.2) (fun h=>c51 h.2)))
 refine zi<|zs<|A8 [] (by kernel_rfl) (by kernel_rfl) (by kernel_rfl) (by decide)<|yp (Aa R R Cw)<|yp (Ab R R Ah R R)<|ChK.cons R (CStep.call R (Cz _ _) R)<|yp (Aa R R F2)<|yp (Ab R R Ah R R)<|ChK.cons R (CStep.call R (Cz _ _) R)<|yp (Aa R R D2)<|yp (Ab R R Ah R R)<|ChK.cons R (CStep.call R (Cz _ _) R)<|?_
 refine yp (Aa R R Do)<|yp (Ab R R Ah R R)<|ChK.cons R (CStep.call R (Cz _ _) R)<|yp (Aa R R Fb)<|yp (Ab R R Ah R R)<|ChK.cons R (CStep.call R (Cz _ _) R)<|?_
 refine ChK.cons R (CStep.slice (l:=Bu [(Bn e.art 31),(Bn e.orn 4),(Bn e.dyn 9),(Bn e.stem 2),(Bn e.beam 2)]) R Tryz.underlying180 Nj J9 (by kernel_rfl) R (by omega) (by omega))<|ChK.cons R (CStep.call R (Je _) R)<|ya R R<|?_
 refine ChK.nil ⟨by kernel_rfl, ?_⟩
 exact zt<|z1 R R (rI (Xw c16 c21 c26 (fun h=>c35 h.2) (fun h=>c38 h.1)))
 refine zk 4 R<|zq R R R<|zn<|A3 (by kernel_rfl) R<|zi<|zs<|zr<|zp (Aa R R Bp)<|zp (Ab R R Ah R R)<|zp (Az R R R)<|zn<|?_
 refine zd R (fun c38=> ?_) (fun c38=> ?_)
 refine zs<|A8 [] (by kernel_rfl) (by kernel_rfl) (by kernel_rfl) (by decide)<|yp (Aa R R Ba)<|yp (Ab R R Cn R R)<|ChK.cons R (CStep.call R (Zh _) R)<|yp (Aa R R El)<|yp (Ab R R Ih R R)<|ChK.cons R (CStep.call R (Wx _) R)<|yp (Aa R R Ek)<|yp (Ab R R Ig R R)<|ChK.cons R (CStep.call R (Wq _) R)<|?_
 refine ChK.cons R (CStep.slice (l:=Bu [(Cj e.heads),(Fa e.graces),(Gy e.lyr)]) R Tryz.underlying180 Nj J9 (by kernel_rfl) R (by omega) (by omega))<|ChK.cons R (CStep.call R (Je _) R)<|ya R R<|?_
 refine ChK.nil ⟨by kernel_rfl, ?_⟩
 refine zr<|zm R R<|zp (Bc R R R)<|zn<|?_
 refine zd R (fun c51=> ?_) (fun c51=> ?_)
 exact zr<|zm R R<|za R R<|zn<|zt<|z1 R R (by exfalso;omega)
 refine zi<|zs<|A8 [] (by kernel_rfl) (by kernel_rfl) (by kernel_rfl) (by decide)<|yp (Aa R R Cw)<|yp (Ab R R Ah R R)<|ChK.cons R (CStep.call R (Cz _ _) R)<|yp (Aa R R F2)<|yp (Ab R R Ah R R)<|ChK.cons R (CStep.call R (Cz _ _) R)<|yp (Aa R R D2)<|yp (Ab R R Ah R R)<|ChK.cons R (CStep.call R (Cz _ _) R)<|?_
 refine yp (Aa R R Do)<|yp (Ab R R Ah R R)<|ChK.cons R (CStep.call R (Cz _ _) R)<|yp (Aa R R Fb)<|yp (Ab R R Ah R R)<|ChK.cons R (CStep.call R (Cz _ _) R)<|?_
 refine ChK.cons R (CStep.slice (l:=Bu [(Bn e.art 31),(Bn e.orn 4),(Bn e.dyn 9),(Bn e.stem 2),(Bn e.beam 2)]) R Tryz.underlying180 Nj J9 (by kernel_rfl) R (by omega) (by omega))<|ChK.cons R (CStep.call R (Je _) R)<|ya R R<|?_
 refine ChK.nil ⟨by kernel_rfl, ?_⟩
 exact zt<|z1 R R (by exfalso;omega)
 refine zi<|zs<|A8 [] (by kernel_rfl) (by kernel_rfl) (by kernel_rfl) (by decide)<|yp (Aa R R Cw)<|yp (Ab R R Ah R R)<|ChK.cons R (CStep.call R (Cz _ _) R)<|yp (Aa R R F2)<|yp (Ab R R Ah R R)<|ChK.cons R (CStep.call R (Cz _ _) R)<|yp (Aa R R D2)<|yp (Ab R R Ah R R)<|ChK.cons R (CStep.call R (Cz _ _) R)<|?_
 refine yp (Aa R R Do)<|yp (Ab R R Ah R R)<|ChK.cons R (CStep.call R (Cz _ _) R)<|yp (Aa R R Fb)<|yp (Ab R R Ah R R)<|ChK.cons R (CStep.call R (Cz _ _) R)<|?_
 refine ChK.cons R (CStep.slice (l:=Bu [(Bn e.art 31),(Bn e.orn 4),(Bn e.dyn 9),(Bn e.stem 2),(Bn e.beam 2)]) R Tryz.underlying180 Nj J9 (by kernel_rfl) R (by omega) (by omega))<|ChK.cons R (CStep.call R (Je _) R)<|ya R R<|?_
 refine ChK.nil ⟨by kernel_rfl, ?_⟩
 exact zt<|z1 R R (rI (Xw c16 c21 c26 (fun h=>g30 h.1) (fun h=>c38 h.1)))
def Ev.len (e:Ev):Int:=if e.err≠0∨e.kind=3 then 0 else P8 e.v
theorem Aso {e:Ev} (h:e.err≠0):0=e.len:=by rw [Ev.len,if_pos (.inl h)]
theorem Asn {e:Ev} (h:e.kind=3):0=e.len:=by rw [Ev.len,if_pos (.inr h)]
theorem Asm {e:Ev} (h:¬e.err≠0) (h2:¬e.kind=3):P8 e.v=e.len:=by rw [Ev.len,if_neg (by omega)]
theorem Agh {e:Ev} (h:¬e.err≠0) (h2:¬e.kind=3):Da e.v=e.err:=by
 have h0:e.err=0:=by omega
 rw [h0]
 unfold Ev.err at h0
 split at h0
 ·rename_i h1;exact absurd h0 h1
 ·split at h0
  ·omega
  ·split at h0
   ·omega
   ·split at h0
    ·omega
    ·rename_i h4;by_cases h5:Da e.v=0
     ·exact h5
     ·exact absurd ⟨h2,h5⟩ h4
theorem Age (e:Ev) (he:e.art≤9223372036854775807):XC Tryz.prog 162 [.agg (Ev.c e)] (fun r=>r= .tup [dI e.len,dI e.err]):=by
 refine Ap Aas Tryz.func162 R R lb<|zr<|XL.step R (Ay 1 (l:= [.d (dI e.site), .d (dI e.num), .d (dI e.kind), .d (dI e.v.log), .d (dI e.v.dots), .d (.sl 5 (e.heads.map Hd.c)), .d (.sl 5 (e.graces.map Gr.c)), .d (dI e.art), .d (dI e.orn), .d (dI e.dyn), .d (.sl 2 (e.lyr.map Sy.c)), .d (dI e.stem), .d (dI e.beam)]) R R (by kernel_rfl))<|za R R<|za R R<|zn<|zs<|zr<|?_
 refine zp (Ad (s':= .d (.agg (Ev.c e))) (Ae (Ac R R A1 R lb)) (by kernel_rfl))<|XL.call1 R R (Qz _ (by assumption)) R<|za R R<|znr<|zm R R<|zp (Bc R R R)<|zm R R<|?_
 refine XL.dec 9 R (fun g9=> ?_) (fun g9=> ?_)
 refine zk 3 R<|zq R R R<|zn<|Ao (by kernel_rfl) R<|zr<|zm R R<|za R R<|za R R<|zn<|zt<|?_
 exact Bs R (RV.tmp R R) (RV.tmp R R) (r2 (rI (Aso g9)) R)
 refine zp (Aa R R Bp)<|zp (Ab R R Ah R R)<|zp (Az R R R)<|zq R R R<|zn<|?_
 refine zd R (fun c13=> ?_) (fun c13=> ?_)
 refine zr<|zm R R<|za R R<|za R R<|zn<|zt<|?_
 exact Bs R (RV.tmp R R) (RV.tmp R R) (r2 (rI (Asn c13)) R)
 refine zi<|zr<|zp (Aa R R Cs)<|zp (Ad (s':= .d (.agg (Val.c e.v))) (Ae (Ac R R Ck R lb)) (by kernel_rfl))<|XL.call1 R R (Akt _) R<|zp (Bh R R R)<|zp (Bh R R R)<|za R R<|za R R<|zn<|zt<|?_
 exact Bs R (RV.tmp R R) (RV.tmp R R) (r2 (rI (Asm g9 c13)) (rI (Agh g9 c13)))
end Go.Proofs.YtcihalbakenleaaGreat
namespace Go.Proofs.YtcihalbakenleaaGreat
open Go.RowKit
theorem Bd.ati {e:Operand→S} {y:Operand} {k:IntKind} {b:Int} {a dflt:Nat} (h:e y= .d (.v (.int k b))) (hb:b=(a:Int)):Bd e (some y) dflt a:=by subst hb;exact .at h
theorem P7 {P:Program} {F:FuncId} {ds:List D} {p:Prop} [Decidable p] (hx:XC P F ds (fun r=>r= .v (.bool (decide p)))) (h:p):XC P F ds (fun r=>r= .v (.bool true)):=by rwa [decide_eq_true h] at hx
theorem Xg {P:Program} {F:FuncId} {ds:List D} {p:Prop} [Decidable p] (hx:XC P F ds (fun r=>r= .v (.bool (decide p)))) (h:¬p):XC P F ds (fun r=>r= .v (.bool false)):=by rwa [decide_eq_false h] at hx
theorem Gh {id:Nat} {K:D3} {f:Fr} {h:Xh} (hk:K .normal f h):Uj id K .normal f h:=hk
theorem Sim.lay {E:Env} {H:Hp} {β:Bt} {h:Xh} {w:World} (s:Sim E H β h w) (i:Nat) (o':XO) (L':Loc) (hblk:∀b,o'.blk L'=some b→∃o L,h i=some o∧β i=some L∧o.blk L=some b)
  (hok:OKo E.w.heap.size w H (β.set i (some L')) L' o'):Sim E H (β.set i (some L')) ((h.kill i).set i o') w:=by
 have k:=s.kill i (some L')
 have old:∀j o1 L1,i≠j→h.kill i j=some o1→(β.set i (some L')) j=some L1→∃o2,h j=some o2∧β j=some L1∧o1.blk L1=o2.blk L1:=fun j o1 L1 e h1 h2=>by
  rw [Xh.kill_ne h e] at h1
  rw [Bt.set_ne β _ e] at h2
  cases hj:h j with
  |none=>rw [hj] at h1;cases h1
  |some o2=>rw [hj] at h1;cases h1;exact ⟨o2,rfl,h2,XO.blk_kill _ _ _⟩
 refine ⟨k.below,k.ext,k.new,k.imm,fun j o1 L1 h1 h2=> ?_,fun j o1 L1 h1 h2 b hb=> ?_,fun j j' o1 o2 L1 L2 b hjj h1 h1' h2 h2' hb=> ?_,fun j o1 h1 hg=> ?_⟩
 ·by_cases e:i=j
  ·subst e;rw [Xh.set_same] at h1;rw [Bt.set_same] at h2;cases h1;cases h2;exact hok
  ·rw [Xh.set_ne _ _ e] at h1;exact k.obj j o1 L1 h1 h2
 ·by_cases e:i=j
  ·subst e;rw [Xh.set_same] at h1;rw [Bt.set_same] at h2;cases h1;cases h2
   obtain ⟨o,L,g1,g2,g3⟩:=hblk b hb
   exact s.sep i o L g1 g2 b g3
  ·rw [Xh.set_ne _ _ e] at h1;exact k.sep j o1 L1 h1 h2 b hb
 ·by_cases e:i=j
  ·subst e
   rw [Xh.set_same] at h1;rw [Bt.set_same] at h2;cases h1;cases h2
   rw [Xh.set_ne _ _ hjj] at h1'
   obtain ⟨o,L,g1,g2,g3⟩:=hblk b hb
   obtain ⟨o3,g4,g5,g6⟩:=old j' o2 L2 hjj h1' h2'
   rw [g6]
   exact s.inj i j' o o3 L L2 b hjj g1 g4 g2 g5 g3
  ·rw [Xh.set_ne _ _ e] at h1
   obtain ⟨o3,g4,g5,g6⟩:=old j o1 L1 e h1 h2
   by_cases e':i=j'
   ·subst e'
    rw [Xh.set_same] at h1';rw [Bt.set_same] at h2';cases h1';cases h2'
    intro hc
    obtain ⟨o,L,g1,g2,g3⟩:=hblk b hc
    rw [g6] at hb
    exact s.inj i j o o3 L L1 b e g1 g4 g2 g5 g3 hb
   ·rw [Xh.set_ne _ _ e'] at h1'
    exact k.inj j j' o1 o2 L1 L2 b hjj h1 h1' h2 h2' hb
 ·by_cases e:i=j
  ·subst e;exact ⟨_,Bt.set_same _ _ _⟩
  ·rw [Xh.set_ne _ _ e] at h1;exact k.dom j o1 h1 hg
section
variable {P:Program} {n:Nat} {ops:Array Oper} {rest:List Oper} {K:D3} {f:Fr} {h:Xh} {o:Oper} {c:Code}
theorem U6 {E:Env} {H:Hp} {β:Bt} {h:Xh} {w:World} (s:Sim E H β h w) (i:Nat) (e:TypeId) (sz:Nat):Sim E H (β.set i (some ⟨.slice none 0 0,0,sz⟩)) ((h.kill i).set i (.row e sz [])) w:=
 s.lay i _ _ (fun b hb=>by cases hb) ⟨rfl,fun x hx=>(by cases hx),fun b hb=>(by cases hb), [],World.ownsRow_nil _ _ _ _,fun u hu=>(by cases hu),fun k j x d hk=>(by simp at hk)⟩
theorem C9 (i t:Nat) (e:TypeId) (sz:Nat) (ht:f t= .d (.v (.slice none 0 0))) (hc:XW P n c K (Dj (Hs f i) t (.own i)) ((h.kill i).set i (.row e sz []))):XW P n c K f h:=fun E H β a w hs hf=>by
 by_cases hlt:t<n
 ·refine hc E H _ a w (U6 hs i e sz) ?_
  refine Vf (hf.kill i (some ⟨.slice none 0 0,0,sz⟩)) t ?_
  have e1:=hf.slot t hlt
  rw [ht] at e1
  rw [Ei e1]
  exact VS.own (L:=⟨.slice none 0 0,0,sz⟩) (Bt.set_same _ _ _)
 ·refine hc E H _ a w (U6 hs i e sz) ⟨hf.defers,hf.size,fun j hj=> ?_⟩
  have:t≠j:=fun e=>hlt (e ▸ hj)
  simp only [Dj,Cb this,cond_false]
  exact (hf.kill i (some ⟨.slice none 0 0,0,sz⟩)).slot j hj
theorem As8 (l:List S) (k:Nat) (s:S) (j:Nat):(l.set k s)[j]? =if k=j∧j<l.length then some s else l[j]? :=by
 rw [List.getElem?_set]
 by_cases e:k=j
 ·subst e
  rw [if_pos rfl]
  by_cases h:k<l.length
  ·rw [if_pos h,if_pos ⟨rfl,h⟩]
  ·rw [if_neg h,if_neg (fun e=>h e.2),List.getElem?_eq_none (by omega)]
 ·rw [if_neg e,if_neg (fun h=>e h.1)]
theorem Jz (i b k:Nat) (e:TypeId) (sz:Nat) {l l':List S} (hb:h b=some (.box l)) (hk:l[k]? =some (.d (.v (.slice none 0 0)))) (hib:i≠b) (hl':(S.killL i l).set k (.own i)=l')
  (hc:XW P n c K (Hs f i) (((h.kill i).set i (.row e sz [])).set b (.box l'))):XW P n c K f h:=fun E H β a w hs hf=>by
 subst hl'
 have s2:=U6 hs i e sz
 have hb2:((h.kill i).set i (.row e sz [])) b=some (.box (S.killL i l)):=by rw [Xh.set_ne _ _ hib,Xh.kill_ne _ hib,hb];rfl
 refine hc E H _ a w ?_ (hf.kill i (some ⟨.slice none 0 0,0,sz⟩))
 cases hL:(β.set i (some ⟨.slice none 0 0,0,sz⟩)) b with
 |none=>
  refine ⟨s2.below,s2.ext,s2.new,s2.imm,fun j o1 L1 h1 h2=> ?_,fun j o1 L1 h1 h2=> ?_,fun j j' o1 o2 L1 L2 q hjj h1 h1' h2 h2'=> ?_,fun j o1 h1 hg=> ?_⟩
  ·by_cases e:b=j
   ·subst e;rw [hL] at h2;cases h2
   ·rw [Xh.set_ne _ _ e] at h1;exact s2.obj j o1 L1 h1 h2
  ·by_cases e:b=j
   ·subst e;rw [hL] at h2;cases h2
   ·rw [Xh.set_ne _ _ e] at h1;exact s2.sep j o1 L1 h1 h2
  ·by_cases e:b=j
   ·subst e;rw [hL] at h2;cases h2
   ·rw [Xh.set_ne _ _ e] at h1
    by_cases e':b=j'
    ·subst e';rw [hL] at h2';cases h2'
    ·rw [Xh.set_ne _ _ e'] at h1';exact s2.inj j j' o1 o2 L1 L2 q hjj h1 h1' h2 h2'
  ·by_cases e:b=j
   ·subst e;rw [Xh.set_same] at h1;cases h1;cases hg
   ·rw [Xh.set_ne _ _ e] at h1;exact s2.dom j o1 h1 hg
 |some L=>
  have ok:=s2.obj b _ L hb2 hL
  obtain ⟨h1,h0,us,t,h2,h3,h4⟩:=ok
  refine s2.turn (o:= .box (S.killL i l)) hb2 hL rfl s2.below (fun _ _=>rfl) ⟨h1,by rw [List.length_set];exact h0,us,t,h2,by rw [List.length_set];exact h3,fun j u s hu hs'=> ?_⟩
  rw [As8] at hs'
  split at hs'
  ·rename_i hkj
   obtain ⟨rfl,hlt⟩:=hkj
   cases hs'
   have:=h4 k u (.d (.v (.slice none 0 0))) hu (by rw [S.killL_get,hk];simp [S.kill])
   rw [Ei this]
   exact VS.own (L:=⟨.slice none 0 0,0,sz⟩) (Bt.set_same _ _ _)
  ·exact h4 j u s hu hs'
theorem To {i:Nat} {t ty:TypeId} {sz:Nat} {x:Operand} {hi:Option Operand} {l:List (List D)} {m:Nat} (ho:o.op= .slice t x none hi none) (hx:ev f x= .own i) (hi':h i=some (.row ty sz l)) (hf:elB P t sz=true)
  (hhi:Bd (ev f) hi l.length m) (hm:m≤l.length):Step P n o f h (.own i) (Hs f i) ((h.kill i).set i (.row ty sz (l.take m))):=by
 intro E H β a w hs hfv hop
 have g:=hop x (by rw [ho];simp [Op.operands])
 rw [hx] at g
 obtain ⟨L,hL,hv⟩:=Jt g
 obtain ⟨el,hu,hpos,hsz⟩:=elB.parts hf
 obtain ⟨h1,hz,hvb,us,hown,hone,hc⟩:=hs.obj i _ L hi' hL
 have hown0:=hown
 obtain ⟨hlen,hcase⟩:=hown
 have hcap:∃A c,L.v= .slice A l.length c∧l.length≤c∧((A=none∧c=0)∨∃g,A=some ⟨g,0,none⟩):=by
  rcases hcase with ⟨hn,h0⟩|⟨g,cap,cur,e1,e2,e3,e4,e5,e6,e7⟩
  ·exact ⟨none,0,by rw [hn,h0],by omega, .inl ⟨rfl,rfl⟩⟩
  ·exact ⟨_,cap,e1,e4, .inr ⟨g,rfl⟩⟩
 obtain ⟨A,c,hLv,hlc,hA⟩:=hcap
 have hbounds:(Instr.sliceBounds true l.length c (none:Option Value) (hi.map a.eval) none).run P w= .ok (0,m,c) w:=
  Mh _ _ _ _ _ _ (.inl ⟨rfl,rfl⟩) (hhi.val fun y hy=>hop y (by rw [ho,hy];simp [Op.operands])) (Nat.zero_le _) (by omega) w
 have hrun:(execOp a.eval o).run P w= .ok (.value (.slice A m c)) w:=by
  unfold execOp
  simp only [ho,hv,hLv,Instr.sliceAt,Option.map_none,Sem.run_bind,run_underlying hu,Result.andThen_ok,Instr.slice,hbounds,hsz,Sem.run_pure,Nat.sub_zero,Nat.zero_mul]
  rcases hA with ⟨rfl,rfl⟩|⟨g,rfl⟩
  ·simp
  ·split<;>simp [Go.WideShapes.add_plain]
 unfold Oper.wp
 rw [hrun]
 have hblk:(Value.slice A m c).ownBlock=L.v.ownBlock:=by rw [hLv];rcases hA with ⟨rfl,_⟩|⟨g,rfl⟩<;>rfl
 have hlt:(l.take m).length=m:=by rw [List.length_take];omega
 refine ⟨H,β.set i (some ⟨.slice A m c,L.b,sz⟩), .slice A m c,rfl,hs.lay i _ _ (fun b hb=> ?_) ?_,hfv.kill i _,VS.own (L:=⟨.slice A m c,L.b,sz⟩) (Bt.set_same _ _ _)⟩
 ·refine ⟨_,L,hi',hL, ?_⟩
  simp only [XO.blk] at hb ⊢
  rw [←hblk];exact hb
 ·refine ⟨rfl,fun x hx=>hz x (List.mem_of_mem_take hx),fun b hb=>hvb b (by rw [←hblk];exact hb),us.take (m*sz),⟨?_, ?_⟩,fun u hu'=>hone u (List.mem_of_mem_take hu'),fun k j x d hk hj=> ?_⟩
  ·rw [List.length_take,hlt,hlen]
   exact Nat.min_eq_left (Nat.mul_le_mul_right _ hm)
  ·rw [hlt]
   rcases hcase with ⟨hn,h0⟩|⟨g,cap,cur,e1,e2,e3,e4,e5,e6,e7⟩
   ·rw [hn] at hLv
    injection hLv with q1 q2 q3
    subst q1 q3
    have:m=0:=by omega
    subst this
    exact .inl ⟨rfl,rfl⟩
   ·rw [e1] at hLv
    injection hLv with q1 q2 q3
    subst q1 q3
    refine .inr ⟨g,cap,cur,rfl,e2,e3,by omega,e5,e6, ?_⟩
    rw [←e7,List.take_take,Nat.min_eq_left (Nat.mul_le_mul_right _ hm)]
  ·have hkm:k<m:=by
    have:=(List.getElem?_eq_some_iff.1 hk).1
    omega
   rw [List.getElem?_take,if_pos hkm] at hk
   obtain ⟨u,h5,h6⟩:=hc k j x d hk hj
   refine ⟨u, ?_,h6⟩
   rw [List.getElem?_take,if_pos]
   ·exact h5
   ·have hjl:j<sz:=by
     have e1:=hz x (List.mem_of_getElem? hk)
     have e2:=(List.getElem?_eq_some_iff.1 hj).1
     omega
    calc k*sz+j<k*sz+sz:=by omega
     _=(k+1)*sz:=by rw [Nat.add_mul,Nat.one_mul]
     _≤m*sz:=Nat.mul_le_mul_right _ hkm
inductive FnS:S→FuncId→List S→List S→Prop where
 |s {F:FuncId} {ps cs:List S}:FnS (.fn F ps cs) F ps cs
 |d {F:FuncId} {pd cd:List D}:FnS (.d (.fn F pd cd)) F (pd.map S.d) (cd.map S.d)
theorem FnS.vs {H:Hp} {β:Bt} {u:Value} {s:S} {F:FuncId} {ps cs:List S} (hs:FnS s F ps cs) (hv:VS H β u s):VS H β u (.fn F ps cs):=by
 cases hs with
 |s=>exact hv
 | @d _ pd cd=>
  obtain ⟨A,C,rfl,h1,h2,h3,h4⟩:=Anf (Ey hv)
  refine .fn F A C _ _ (by simpa using h1) (by simpa using h2) (fun i x s hx hs=> ?_) (fun i x s hx hs=> ?_)
  ·rw [List.getElem?_map] at hs
   cases hp:pd[i]? with
   |none=>rw [hp] at hs;cases hs
   |some d=>rw [hp] at hs;cases hs;exact .d (h3 i x d hx hp)
  ·rw [List.getElem?_map] at hs
   cases hp:cd[i]? with
   |none=>rw [hp] at hs;cases hs
   |some d=>rw [hp] at hs;cases hs;exact .d (h4 i x d hx hp)
def Nb (P:Program) (n:Nat) (fn:Func) (f:Fr) (h:Xh) (s:S):Prop:=∀E H β a w,Sim E H β h w→FV n H β a f→∃u,(results fn a.tmps).run P w= .ok u w∧VS H β u s
theorem rs1 {fn:Func} {rv:ResultVar} {d:D} (hr:fn.results= #[rv]) (h1:RV P n f h rv d):Nb P n fn f h (.d d):=fun E H β a w hs hf=>by
 obtain ⟨u,e1,v1⟩:=h1 E H β a w hs hf
 refine ⟨u, ?_, .d v1⟩
 rw [Ko,hr]
 simp [e1]
def Am9 (ss:List S):Fr:=fun t=>
 match ss[t]? with
 |some s=>s
 |none=> .d (.v undef)
def Aml (P:Program) (n:Nat) (ops:Array Oper) (rest:List Oper) (K:D3) (dst:Option Tmp) (fn:Func) (n' G:Nat) (u:Array Value):D3
 | .normal,f,h=>∃s l,h G=some (.ghost u l)∧Nb P n' fn f h s∧XL P n ops rest K (Bw (mkF l) dst s) h
 | .ret,f,h=>∃s l,h G=some (.ghost u l)∧Nb P n' fn f h s∧XL P n ops rest K (Bw (mkF l) dst s) h
 |_,_,_=>False
theorem Gb {dst:Option Tmp} {fn:Func} {n' G:Nat} {u:Array Value} {f':Fr} {h':Xh} {s:S} {l:List (Nat × S)} (hG:h' G=some (.ghost u l)) (hr:Nb P n' fn f' h' s) (hk:XL P n ops rest K (Bw (mkF l) dst s) h'):
  Aml P n ops rest K dst fn n' G u .normal f' h'∧Aml P n ops rest K dst fn n' G u .ret f' h':=⟨⟨s,l,hG,hr,hk⟩,⟨s,l,hG,hr,hk⟩⟩
theorem Ape {l:List (Nat × S)} {t:Nat}:mkF l t= .any∨(t,mkF l t)∈l:=by
 induction l with
 |nil=>exact .inl rfl
 |cons p l ih=>
  obtain ⟨t',s⟩:=p
  by_cases e:t'=t
  ·subst e
   right
   have:mkF ((t',s)::l) t'=s:=by simp only [mkF,Dj,B1,cond_true]
   rw [this]
   exact List.mem_cons_self
  ·have:mkF ((t',s)::l) t=mkF l t:=by simp only [mkF,Dj,Cb e,cond_false]
   rw [this]
   rcases ih with h|h
   ·exact .inl h
   ·exact .inr (List.mem_cons_of_mem _ h)
theorem XL.inl {x:Operand} {args:Array Operand} {tys:Array TypeId} {F:FuncId} {ps cs:List S} {fn:Func} {n':Nat} (G:Nat) (l:List (Nat × S)) (ho:o.op= .call {callee:= .value x,args:=args,argTypes:=tys})
  (hw:Cd ops f n o.guard=some true) (hx:FnS (ev f x) F ps cs) (hcl:Callable P F) (hf:P.funcs[F]? =some fn) (hb:fn.body=some c) (hn:fn.ntmps=n') (hlen:ps.length+args.size+cs.length≤n')
  (hl:∀p∈l,p.1<n∧f p.1=p.2)
  (hc:∀u,XW P n' c (Aml P n ops rest K o.dst fn n' G u) (Hs (Am9 (ps++args.toList.map (ev f)++cs)) G) ((h.kill G).set G (.ghost u (S.killG G l)))):XL P n ops (o::rest) K f h:=by
 intro hin E H β a w hs hfv
 rw [List.all_cons,Bool.and_eq_true] at hin
 have hop:=hfv.operands hin.1
 have hd:=hin.1
 unfold inN at hd
 rw [Bool.and_eq_true] at hd
 have hop':∀y∈args,VS H β (a.eval y) (ev f y):=fun y hy=>hop y (by rw [ho];simp [Op.operands,Call.operands,hy])
 have hxv:=hop x (by rw [ho];simp [Op.operands,Call.operands])
 obtain ⟨A,C,hA,hA1,hC1,hA2,hC2⟩:=Ane (hx.vs hxv)
 have hrun:(execOp a.eval o).run P w= .ok (.enter F (A++args.map a.eval++C)) w:=by
  have:=hcl.run (A++args.map a.eval++C) w
  unfold execOp
  simp only [ho,resolve,hA,Deferred.ofValue,Sem.run_bind,Sem.run_pure,Result.andThen_ok,invoke]
  exact this
 unfold wpList
 rw [if_pos (Ji hfv hw)]
 refine .inl (Hy (K:=fun a' w'=>wpList P ops (Acm E n K) rest a' w') ?_ (fun _ _ h=>h))
 unfold Oper.wp
 rw [hrun]
 let L0:Option Loc:=some ⟨.slice none 0 0,0,0⟩
 have hvs:∀(i:Nat) (y:Value) (s:S),(A++args.map a.eval++C)[i]? =some y→(ps++args.toList.map (ev f)++cs)[i]? =some s→VS H β y s:=by
  intro i y s hy hd
  by_cases h1:i<ps.length
  ·rw [List.append_assoc,List.getElem?_append_left h1] at hd
   rw [Array.append_assoc,Array.getElem?_append_left (by omega)] at hy
   exact hA2 i y s hy hd
  ·by_cases h2:i<ps.length+args.size
   ·rw [List.append_assoc,List.getElem?_append_right (by omega),List.getElem?_append_left (by simp;omega)] at hd
    rw [Array.append_assoc,Array.getElem?_append_right (by omega),Array.getElem?_append_left (by simp;omega),hA1] at hy
    rw [List.getElem?_map,Array.getElem?_toList] at hd
    rw [Array.getElem?_map] at hy
    cases hq:args[i - ps.length]? with
    |none=>rw [hq] at hd;cases hd
    |some q=>
     rw [hq] at hd hy
     cases hd;cases hy
     exact hop' q (Array.mem_of_getElem? hq)
   ·rw [List.getElem?_append_right (by simp;omega)] at hd
    rw [Array.getElem?_append_right (by simp;omega)] at hy
    have e:(A++args.map a.eval).size=(ps++args.toList.map (ev f)).length:=by simp [hA1]
    rw [e] at hy
    exact hC2 _ y s hy hd
 have hsz:(A++args.map a.eval++C).size=(ps++args.toList.map (ev f)++cs).length:=by simp [hA1,hC1]
 have hsz2:(A++args.map a.eval++C).size=ps.length+args.size+cs.length:=by simp [hA1,hC1];omega
 generalize hvse:A++args.map a.eval++C=vs at*
 generalize hsse:ps++args.toList.map (ev f)++cs=ss at*
 have hcal:Calls P F vs w fun e w'=>∃v,e= .returned v∧wpList P ops (Acm E n K) rest (a.put o.dst v) w':=by
  refine calls_of_wp hf hb ?_
  have s2:Sim E H (β.set G L0) ((h.kill G).set G (.ghost a.tmps (S.killG G l))) w:=by
   refine hs.lay G _ _ (fun b hb=>by cases hb) fun t s hm=> ?_
   obtain ⟨s',h1,rfl⟩:=S.killG_mem hm
   obtain ⟨h2,h3⟩:=hl _ h1
   have:=hfv.slot t h2
   simp only at h3
   rw [h3] at this
   exact this.kill G _
  have f2:FV n' H (β.set G L0) {tmps:=vs++Array.replicate (fn.ntmps - vs.size) undef,defers:= []} (Hs (Am9 ss) G):=by
   refine FV.kill ⟨rfl,by simp [hn];omega,fun t ht=> ?_⟩ G L0
   unfold Am9
   cases hd:ss[t]? with
   |none=>
    have hge:ss.length≤t:=List.getElem?_eq_none_iff.1 hd
    have:(vs++Array.replicate (fn.ntmps - vs.size) undef).getD t undef=undef:=by
     rw [Array.getD_eq_getD_getElem?,Array.getElem?_append_right (by omega)]
     rw [Array.getElem?_replicate]
     split<;>rfl
    show VS H β ((vs++Array.replicate (fn.ntmps - vs.size) undef).getD t undef) (.d (.v undef))
    rw [this]
    exact .d (.v _)
   |some s=>
    have hlt:t<ss.length:=(List.getElem?_eq_some_iff.1 hd).1
    have hx : vs[t]? = some (vs[t]'(by omega)) := Array.getElem?_eq_getElem (by omega)
    have : (vs ++ Array.replicate (fn.ntmps - vs.size) undef).getD t undef = vs[t]'(by omega) := by
     rw [Array.getD_eq_getD_getElem?,Array.getElem?_append_left (by omega),hx]
     rfl
    show VS H β ((vs++Array.replicate (fn.ntmps - vs.size) undef).getD t undef) s
    rw [this]
    exact hvs t _ s hx hd
  refine wp_mono (hc a.tmps E H _ _ w s2 f2) ?_
  rintro e a' w' ⟨H',β',f',h',h1,h2,h3⟩
  have fin:(∃s l,h' G=some (.ghost a.tmps l)∧Nb P n' fn f' h' s∧XL P n ops rest K (Bw (mkF l) o.dst s) h')→
    a'.defers= []∧∃v,(results fn a'.tmps).run P w'= .ok v w'∧∃v',Ending.returned v= .returned v'∧wpList P ops (Acm E n K) rest (a.put o.dst v') w':=by
   rintro ⟨s,l',g1,g2,g3⟩
   obtain ⟨v,g4,g5⟩:=g2 E H' β' a' w' h1 h2
   refine ⟨h2.defers,v,g4,v,rfl, ?_⟩
   obtain ⟨L,hL⟩:=h1.dom G _ g1 rfl
   have hok:∀t s,(t,s)∈l'→VS H' β' (a.tmps.getD t undef) s:=h1.obj G _ L g1 hL
   have fv : FV n H' β' a (mkF l') := ⟨hfv.defers, hfv.size, fun t _ => by
    rcases Ape (l:=l') (t:=t) with e|e
    ·rw [e];exact .any _
    ·exact hok _ _ e⟩
   exact g3 hin.2 E H' β' _ w' h1 (fv.put g5 o.dst hd.2)
  cases e with
  |normal=>exact fin h3
  |ret=>exact fin h3
  |_=>exact h3.elim
 refine hcal.mono ?_
 rintro e w' ⟨v,rfl,h⟩
 exact h
end
end Go.Proofs.YtcihalbakenleaaGreat
namespace Go.Proofs.YtcihalbakenleaaGreat
open Go.RowKit
def Tp.e (t:Tp):Int:=t.first+t.count
def Tp.ok (t:Tp):Prop:=0≤t.first∧t.first≤128∧1≤t.count∧t.count≤128∧1≤t.actual∧t.actual≤32∧1≤t.normal∧t.normal≤32
def Tp.has (t:Tp) (n:Int):Prop:=t.first≤n∧n - t.first<t.count
instance (t:Tp) (n:Int):Decidable (t.has n):=by unfold Tp.has;exact inferInstance
theorem Hz (t:Tp) (h:t.ok):XC Tryz.prog 166 [.agg (Tp.c t)] (fun r=>r=dI t.e):=by
 have h2:=h
 simp only [Tp.ok] at h2
 exact Ap Aap Tryz.func166 R R lb<|zr<|XL.step R (Ay 1 (l:= [.d (dI t.first), .d (dI t.count), .d (dI t.actual), .d (dI t.normal)]) R R (by kernel_rfl))<|za R R<|znr<|zp (Aa R R Df)<|zp (Ab R R Ah R R)<|zp (Aa R R Gf)<|zp (Ab R R Ah R R)<|zp (Ak R R R (by omega) (by omega))<|za R R<|zn<|zt<|z1 R R (rI R)
theorem R7 (t:Tp) (n:Int) (h:t.ok) (h0:0≤n) (h1:n≤128):XC Tryz.prog 140 [.agg (Tp.c t), .v (.int .i64 n)] (fun r=>r=dB (decide (t.has n))):=by
 have h2:=h
 simp only [Tp.ok] at h2
 refine Ap Abe Tryz.func140 R R lb<|zr<|XL.step R (Ay 2 (l:= [.d (dI t.first), .d (dI t.count), .d (dI t.actual), .d (dI t.normal)]) R R (by kernel_rfl))<|za R R<|znr<|zm R R<|zp (Aa R R Df)<|zp (Ab R R Ah R R)<|zp (Ed R R R)<|zm R R<|?_
 refine XL.dec 9 R (fun g9=> ?_) (fun g9=> ?_)
 exact zm R R<|zp (Aa R R Df)<|zp (Ab R R Ah R R)<|zp (C7 R R R (by omega) (by omega))<|zp (Aa R R Gf)<|zp (Ab R R Ah R R)<|zp (At R R R)<|zq R R R<|za R R<|zn<|zt<|z1 R R (rB (by rw [decide_eq_decide];unfold Tp.has;omega))
 exact zk 7 R<|zq R R R<|za R R<|zn<|zt<|z1 R R (rB (by rw [eq_comm,decide_eq_false_iff_not];unfold Tp.has;omega))
def Kq (a b:Tp):Int:=if a.first≠b.first then (if a.first<b.first then -1 else 1) else if a.count≠b.count then (if b.count<a.count then -1 else 1) else 0
theorem Al9 (a b:Tp):XC Tryz.prog 168 [.agg (Tp.c a), .agg (Tp.c b)] (fun r=>r=dI (Kq a b)):=by
 refine Ap Aan Tryz.func168 R R lb<|zr<|XL.step R (Ay 2 (l:= [.d (dI a.first), .d (dI a.count), .d (dI a.actual), .d (dI a.normal)]) R R (by kernel_rfl))<|XL.step R (Ay 3 (l:= [.d (dI b.first), .d (dI b.count), .d (dI b.actual), .d (dI b.normal)]) R R (by kernel_rfl))<|za R R<|zn<|zs<|zr<|zp (Aa R R Df)<|zp (Ab R R Ah R R)<|zp (Aa R R Df)<|?_
 refine zp (Ab R R Ah R R)<|zp (Bc R R R)<|zn<|?_
 refine zd R (fun c9=> ?_) (fun c9=> ?_)
 refine zs<|zr<|zp (Aa R R Df)<|zp (Ab R R Ah R R)<|zp (Aa R R Df)<|zp (Ab R R Ah R R)<|zp (At R R R)<|zn<|?_
 refine zd R (fun c14=> ?_) (fun c14=> ?_)
 exact zr<|za R R<|zn<|zt<|z1 R R (rI (by rw [Kq,if_pos c9,if_pos c14]))
 exact zi<|zr<|za R R<|zn<|zt<|z1 R R (rI (by rw [Kq,if_pos c9,if_neg c14]))
 refine zi<|zs<|zr<|zp (Aa R R Gf)<|zp (Ab R R Ah R R)<|zp (Aa R R Gf)<|zp (Ab R R Ah R R)<|zp (Bc R R R)<|zn<|?_
 refine zd R (fun c19=> ?_) (fun c19=> ?_)
 refine zs<|zr<|zp (Aa R R Gf)<|zp (Ab R R Ah R R)<|zp (Aa R R Gf)<|zp (Ab R R Ah R R)<|zp (A6 R R R)<|zn<|?_
 refine zd R (fun c24=> ?_) (fun c24=> ?_)
 exact zr<|za R R<|zn<|zt<|z1 R R (rI (by rw [Kq,if_neg c9,if_pos c19,if_pos c24]))
 exact zi<|zr<|za R R<|zn<|zt<|z1 R R (rI (by rw [Kq,if_neg c9,if_pos c19,if_neg c24]))
 exact zi<|zr<|za R R<|zn<|zt<|z1 R R (rI (by rw [Kq,if_neg c9,if_neg c19]))
theorem Ym (n:Int):XC Tryz.prog 167 [.v (.int .i64 n)] (fun r=>r=dB (decide (1≤n∧n≤32))):=by
 refine Ap Aao Tryz.func167 R R lb<|zr<|za R R<|znr<|zm R R<|zp (Ed R R R)<|zm R R<|?_
 refine XL.dec 5 R (fun g5=> ?_) (fun g5=> ?_)
 exact zm R R<|zp (Fk R R R)<|zq R R R<|za R R<|zn<|zt<|z1 R R (rB (by rw [decide_eq_decide];omega))
 exact zk 2 R<|zq R R R<|za R R<|zn<|zt<|z1 R R (rB (by rw [eq_comm,decide_eq_false_iff_not];omega))
theorem Amr {a b:Int} (ha:0≤a) (hb:0<b):Int.gcd b (a % b)=Int.gcd a b:=by
 rw [Int.gcd_comm a b,Int.gcd_comm b (a % b),Int.gcd_comm b a]
 obtain ⟨m,rfl⟩:=Int.eq_ofNat_of_zero_le ha
 obtain ⟨n,rfl⟩:=Int.eq_ofNat_of_zero_le (Int.le_of_lt hb)
 rw [show ((m:Int) % (n:Int))=((m % n:Nat):Int) from by simp]
 simp only [Int.gcd_natCast_natCast]
 rw [Nat.gcd_comm m n, ←Nat.gcd_rec n m]
theorem Ah7 (a b:Int) (ha:0≤a) (hb:0≤b):XC Tryz.prog 190 [.v (.int .i64 a), .v (.int .i64 b)] (fun r=>r=dI (Int.gcd a b)):=by
 refine Ap Z3 Tryz.func190 R R lb<|zr<|za R R<|zn<|zs<|Ag<|?_
 refine Ax (α:=Int × Int) (fun p=>0≤p.1∧0≤p.2∧Int.gcd p.1 p.2=Int.gcd a b) (fun p=>mkF [(0, .d (dI p.1)),(1, .d (dI p.2)),(4, .d (dI 0))]) (fun p=>mkH []) (fun p=>p.2.toNat) ((a,b)) (⟨ha,hb,R⟩) ?_ ?_ ?_
 exact fz ⟨sr,sr,sr,trivial⟩
 exact HSub.nil
 intro p hk0
 obtain ⟨h1,h2,h3⟩:=hk0
 refine zs<|zr<|zm R R<|zp (A6 R R R)<|zn<|?_
 refine zd R (fun c6=> ?_) (fun c6=> ?_)
 refine zi<|Ag<|A8 [] (by kernel_rfl) (by kernel_rfl) (by kernel_rfl) (by decide)<|ym R R<|ym R R<|ym R R<|yp (D8 R R R (by omega) (by omega))<|ya R R<|ya R R<|?_
 refine ChK.nil ⟨by kernel_rfl, ?_⟩
 refine Gh<|?_
 exact Al ((p.2,p.1 % p.2)) (⟨h2,Int.emod_nonneg _ (by omega),by rw [←h3];exact Amr h1 c6⟩) (by have:=Int.emod_lt_of_pos p.1 c6;have:=Int.emod_nonneg p.1 (show p.2≠0 by omega);simp only;omega) (fz ⟨sr,sr,sr,trivial⟩) (HSub.nil)
 have he:p.2=0:=by omega
 have hg:p.1=(Int.gcd a b:Int):=by rw [←h3,he,Int.gcd_zero_right];omega
 exact An<|zr<|zm R R<|za R R<|zn<|zt<|z1 R R (rI hg)
theorem K6 {a b:Int} (h:0≤a) (h1:1≤b):a≤a*b:=by
 have:=Int.mul_le_mul_of_nonneg_left h1 h
 omega
def hits (l:List Tp) (n:Int):Nat:=(l.filter fun t=>decide (t.has n)).length
def F0 (n:Int) (p:Int × Int) (t:Tp):Int × Int:=
 if t.has n then (p.1*t.normal / (Int.gcd (p.1*t.normal) (p.2*t.actual):Int),p.2*t.actual / (Int.gcd (p.1*t.normal) (p.2*t.actual):Int)) else p
def A5 (l:List Tp) (n:Int):Int × Int:=l.foldl (F0 n) (1,1)
theorem H9 (l:List Tp) (t:Tp) (n:Int):hits (l++ [t]) n=hits l n+(if t.has n then 1 else 0):=by
 unfold hits
 rw [List.filter_append,List.length_append]
 by_cases h:t.has n<;>simp [h]
theorem Nx (l:List Tp) (k:Nat) (n:Int):hits (l.take k) n≤hits l n:=by
 unfold hits
 exact ((List.take_sublist k l).filter _).length_le
theorem Wv (l:List Tp) (k:Nat) (n:Int):hits (l.drop k) n≤hits l n:=by
 unfold hits
 exact ((List.drop_sublist k l).filter _).length_le
theorem L9 (l:List Tp) (t:Tp) (n:Int):A5 (l++ [t]) n=F0 n (A5 l n) t:=by
 unfold A5
 rw [List.foldl_append]
 rfl
theorem U4 {l:List Tp} (h:∀t∈l,t.ok) (k:Nat):∀t∈l.take k,t.ok:=fun t ht=>h t (List.mem_of_mem_take ht)
theorem Afo {l:List Tp} (h:∀t∈l,t.ok) (k:Nat):∀t∈l.drop k,t.ok:=fun t ht=>h t (List.mem_of_mem_drop ht)
theorem Mc {a b:Int} (ha:1≤a) (hb:1≤b):1≤a / (Int.gcd a b:Int)∧a / (Int.gcd a b:Int)≤a∧1≤(Int.gcd a b:Int)∧(Int.gcd a b:Int)≤a:=by
 have hg:0<Int.gcd a b:=Int.gcd_pos_of_ne_zero_left b (by omega)
 have hd:(Int.gcd a b:Int) ∣ a:=Int.gcd_dvd_left a b
 have hle:(Int.gcd a b:Int)≤a:=Int.le_of_dvd (by omega) hd
 refine ⟨?_,Int.ediv_le_self _ (by omega),by omega,hle⟩
 exact (Int.le_ediv_iff_mul_le (by omega)).2 (by omega)
theorem Ac1 {n:Int} {p:Int × Int} {t:Tp} (ht:t.ok) {B:Int} (h1:1≤p.1) (h2:p.1≤B) (h3:1≤p.2) (h4:p.2≤B):
  1≤(F0 n p t).1∧(F0 n p t).1≤(if t.has n then B*32 else B)∧1≤(F0 n p t).2∧(F0 n p t).2≤(if t.has n then B*32 else B):=by
 unfold F0
 obtain ⟨_,_,_,_,q1,q2,q3,q4⟩:=ht
 split
 ·have e1:1≤p.1*t.normal:=Int.le_trans h1 (K6 (by omega) q3)
  have e2:1≤p.2*t.actual:=Int.le_trans h3 (K6 (by omega) q1)
  have e3:p.1*t.normal≤B*32:=Int.mul_le_mul h2 q4 (by omega) (by omega)
  have e4:p.2*t.actual≤B*32:=Int.mul_le_mul h4 q2 (by omega) (by omega)
  have g1:=Mc e1 e2
  have g2:=Mc e2 e1
  rw [Int.gcd_comm] at g2
  exact ⟨g1.1,by omega,g2.1,by omega⟩
 ·exact ⟨h1,h2,h3,h4⟩
theorem Ky {α:Type} {p:List α→Prop} (h0:p []) (hs:∀l a,p l→p (l++ [a])) (l:List α):p l:=by
 have:∀k,k≤l.length→p (l.take k):=by
  intro k
  induction k with
  |zero=>intro _;rw [List.take_zero];exact h0
  |succ k ih=>
   intro hk
   have e:l[k]? =some l[k]:=List.getElem?_eq_getElem (by omega)
   rw [Bb e]
   exact hs _ _ (ih (by omega))
 have h:=this l.length (Nat.le_refl _)
 rwa [List.take_length] at h
theorem Qi (l:List Tp) (n:Int):(∀t∈l,t.ok)→1≤(A5 l n).1∧(A5 l n).1≤32 ^ hits l n∧1≤(A5 l n).2∧(A5 l n).2≤32 ^ hits l n:=by
 refine Ky (p:=fun l=>(∀t∈l,t.ok)→1≤(A5 l n).1∧(A5 l n).1≤32 ^ hits l n∧1≤(A5 l n).2∧(A5 l n).2≤32 ^ hits l n) (fun _=>by simp [A5,hits]) (fun l t ih hl=> ?_) l
 obtain ⟨h1,h2,h3,h4⟩:=ih (fun t ht=>hl t (List.mem_append_left _ ht))
 have:=Ac1 (n:=n) (hl t (List.mem_append_right _ (List.mem_singleton.2 rfl))) h1 h2 h3 h4
 rw [L9,H9]
 split at this
 ·rename_i h;rw [if_pos h,Int.pow_succ];exact this
 ·rename_i h;rw [if_neg h];exact this
theorem Su {l:List Tp} {n:Int} (hl:∀t∈l,t.ok) (h:hits l n≤3):1≤(A5 l n).1∧(A5 l n).1≤32768∧1≤(A5 l n).2∧(A5 l n).2≤32768:=by
 have:=Qi l n hl
 have e:(32:Int) ^ hits l n≤32768:=by
  generalize hits l n=k at*
  match k,h with
  |0,_=>decide
  |1,_=>decide
  |2,_=>decide
  |3,_=>decide
  |k+4,h=>omega
 omega
theorem V5 {l:List Tp} {k:Nat} {t:Tp} {n:Int} (h:l[k]? =some t) (ht:t.has n):A5 (l.take (k+1)) n=((A5 (l.take k) n).1*t.normal / (Int.gcd ((A5 (l.take k) n).1*t.normal) ((A5 (l.take k) n).2*t.actual):Int),(A5 (l.take k) n).2*t.actual / (Int.gcd ((A5 (l.take k) n).1*t.normal) ((A5 (l.take k) n).2*t.actual):Int)):=by
 rw [Bb h,L9,F0,if_pos ht]
theorem T3 {l:List Tp} {k:Nat} {t:Tp} {n:Int} (h:l[k]? =some t) (ht:¬t.has n):A5 (l.take (k+1)) n=A5 (l.take k) n:=by
 rw [Bb h,L9,F0,if_neg ht]
theorem Ag0 (l:List Tp) (n:Int) (hl:∀t∈l,t.ok) (hh:hits l n≤3) (h0:0≤n) (h1:n≤128):XC Tryz.prog 181 [.sl 4 (l.map Tp.c), .v (.int .i64 n)] (fun r=>r= .tup [dI (A5 l n).1,dI (A5 l n).2]):=by
 refine Ap Aab Tryz.func181 R R lb<|zr<|za R R<|za R R<|znr<|za R R<|za R R<|zn<|zs<|zr<|zm R R<|XL.len R R R Tryz.underlying23 fun hl10=>zm R R<|zn<|?_
 refine Ag<|?_
 refine Ax (α:=Nat) (fun k=>k≤l.length) (fun k=>mkF [(1, .d (dI n)),(4, .d (dI (A5 (l.take k) n).1)),(5, .d (dI (A5 (l.take k) n).2)),(9, .d (.sl 4 (l.map Tp.c))),(10, .d (dI l.length)),(11, .d (dI k))]) (fun k=>mkH []) (fun k=>l.length - k) (0) (Nat.zero_le _) ?_ ?_ ?_
 exact fz ⟨sr,sr,sr,sr,sr,sr,trivial⟩
 exact HSub.nil
 intro k hk0
 refine zr<|zp (At R R R)<|zn<|zs<|?_
 refine zd R (fun c12=> ?_) (fun c12=> ?_)
 have hk0a:k<l.length:=by omega
 obtain ⟨x0,hx0⟩:=As hk0a
 have hok:x0.ok:=hl x0 (List.mem_of_getElem? hx0)
 have hb:=Su (n:=n) (U4 hl k) (Nat.le_trans (Nx l k n) hh)
 have hok2:=hok
 simp only [Tp.ok] at hok2
 have e1:1≤(A5 (l.take k) n).1*x0.normal:=Int.le_trans hb.1 (K6 (by omega) (by omega))
 have e2:1≤(A5 (l.take k) n).2*x0.actual:=Int.le_trans hb.2.2.1 (K6 (by omega) (by omega))
 have e3:(A5 (l.take k) n).1*x0.normal≤32768*32:=Int.mul_le_mul hb.2.1 (by omega) (by omega) (by omega)
 have e4:(A5 (l.take k) n).2*x0.actual≤32768*32:=Int.mul_le_mul hb.2.2.2 (by omega) (by omega) (by omega)
 have g1:=Mc e1 e2
 refine zi<|zs<|Ag<|zr<|zp (Aj R R R E6 hx0)<|zp (Ad (s':= .d (.agg (Tp.c x0))) (Ar R R Co lb) (by kernel_rfl))<|XL.step R (A9 7 (l:= [.d (dI 0), .d (dI 0), .d (dI 0), .d (dI 0)]) R Ex (by kernel_rfl))<|XL.step R (Ai (l':= [.d (dI x0.first), .d (dI x0.count), .d (dI x0.actual), .d (dI x0.normal)]) R R R R Gw R lb (by kernel_rfl))<|znr<|?_
 refine zp (Ad (s':= .d (.agg (Tp.c x0))) (Ae (Ac R R Co R lb)) (by kernel_rfl))<|zm R R<|XL.call1 R R (R7 _ _ (by assumption) (by omega) (by omega)) R<|zn<|?_
 refine zd R (fun c17=> ?_) (fun c17=> ?_)
 refine zs<|A8 [] (by kernel_rfl) (by kernel_rfl) (by kernel_rfl) (by decide)<|ym R R<|yp (Aa R R N1)<|yp (Ab R R Ah R R)<|yp (G4 R R R (by omega) (by omega))<|ym R R<|yp (Aa R R Ls)<|yp (Ab R R Ah R R)<|yp (G4 R R R (by omega) (by omega))<|ya R R<|ya R R<|?_
 refine ChK.nil ⟨by kernel_rfl, ?_⟩
 refine zr<|zm R R<|zm R R<|XL.call1 R R (Ah7 _ _ (by omega) (by omega)) R<|za R R<|zn<|A8 [] (by kernel_rfl) (by kernel_rfl) (by kernel_rfl) (by decide)<|ym R R<|ym R R<|yp (F9 R R R (by omega) (by omega) (by omega))<|ym R R<|ym R R<|yp (F9 R R R (by omega) (by omega) (by omega))<|ya R R<|?_
 refine ya R R<|?_
 refine ChK.nil ⟨by kernel_rfl, ?_⟩
 refine Af (by kernel_rfl)<|zp (Ak R R R (by omega) (by omega))<|zm R R<|zn<|?_
 exact Al (k+1) (by omega) (by omega) (fz ⟨sr, .same (sI (by rw [V5 hx0 c17])), .same (sI (by rw [V5 hx0 c17])),sr,sr,sr,trivial⟩) (HSub.nil)
 refine zi<|Af (by kernel_rfl)<|zp (Ak R R R (by omega) (by omega))<|zm R R<|zn<|?_
 exact Al (k+1) (by omega) (by omega) (fz ⟨sr, .same (sI (by rw [T3 hx0 c17])), .same (sI (by rw [T3 hx0 c17])),sr,sr,sr,trivial⟩) (HSub.nil)
 have hk0b:k=l.length:=by omega
 have ht:l.take k=l:=by rw [hk0b,List.take_length]
 refine An<|zr<|zm R R<|zm R R<|za R R<|za R R<|zn<|zt<|?_
 exact Bs R (RV.tmp R R) (RV.tmp R R) (r2 (rI (by rw [ht])) (rI (by rw [ht])))
def Du (l:List Tp) (n w:Int):Int:=if w<0∨7741440<w then 0 else if w*(A5 l n).1 % (A5 l n).2≠0 then 0 else w*(A5 l n).1 / (A5 l n).2
def Dv (l:List Tp) (n w:Int):Int:=if w<0∨7741440<w then 2 else if w*(A5 l n).1 % (A5 l n).2≠0 then 16 else 0
theorem G7 {l:List Tp} {n w:Int} (h:w<0∨7741440<w):0=Du l n w∧2=Dv l n w:=by simp only [Du,Dv,if_pos h];exact ⟨trivial,trivial⟩
theorem Uz {l:List Tp} {n w:Int} (h1:¬w<0) (h2:¬7741440<w) (h:w*(A5 l n).1 % (A5 l n).2≠0):0=Du l n w∧16=Dv l n w:=by simp only [Du,Dv,if_neg (show ¬(w<0∨7741440<w) by omega),if_pos h];exact ⟨trivial,trivial⟩
theorem Rd {l:List Tp} {n w:Int} (h1:¬w<0) (h2:¬7741440<w) (h:¬w*(A5 l n).1 % (A5 l n).2≠0):w*(A5 l n).1 / (A5 l n).2=Du l n w∧0=Dv l n w:=by simp only [Du,Dv,if_neg (show ¬(w<0∨7741440<w) by omega),if_neg h];exact ⟨trivial,trivial⟩
theorem Sk {l:List Tp} {n w:Int} (hl:∀t∈l,t.ok) (hh:hits l n≤3):0≤Du l n w∧Du l n w≤253671505920:=by
 have hb:=Su hl hh
 unfold Du
 split
 ·omega
 ·split
  ·omega
  ·have e1:0≤w*(A5 l n).1:=Int.mul_nonneg (by omega) (by omega)
   have e2:w*(A5 l n).1≤7741440*32768:=Int.mul_le_mul (by omega) hb.2.1 (by omega) (by omega)
   exact ⟨Int.ediv_nonneg e1 (by omega),Int.le_trans (Int.ediv_le_self _ e1) (by omega)⟩
theorem Yd (l:List Tp) (n w:Int) (hl:∀t∈l,t.ok) (hh:hits l n≤3) (h0:0≤n) (h1:n≤128):XC Tryz.prog 163 [.sl 4 (l.map Tp.c), .v (.int .i64 n), .v (.int .i64 w)] (fun r=>r= .tup [dI (Du l n w),dI (Dv l n w)]):=by
 have hb:=Su hl hh
 refine Ap Aar Tryz.func163 R R lb<|zr<|za R R<|za R R<|zn<|zs<|zr<|zm R R<|zp (At R R R)<|zm R R<|?_
 refine XL.dec 12 R (fun g12=> ?_) (fun g12=> ?_)
 refine zk 2 R<|zq R R R<|zn<|Ao (by kernel_rfl) R<|zr<|za R R<|za R R<|zn<|zt<|?_
 exact Bs R (RV.tmp R R) (RV.tmp R R) (r2 (rI (G7 (.inl g12)).1) (rI (G7 (l:=l) (n:=n) (.inl g12)).2))
 refine zm R R<|zp (A6 R R R)<|zq R R R<|zn<|?_
 refine zd R (fun c15=> ?_) (fun c15=> ?_)
 refine zr<|za R R<|za R R<|zn<|zt<|?_
 exact Bs R (RV.tmp R R) (RV.tmp R R) (r2 (rI (G7 (.inr c15)).1) (rI (G7 (l:=l) (n:=n) (.inr c15)).2))
 refine zi<|zr<|zm R R<|zm R R<|XL.call1 R R (Ag0 _ _ (by assumption) (by assumption) (by omega) (by omega)) R<|zm R R<|zp (Bh R R R)<|zp (Bh R R R)<|za R R<|za R R<|zn<|zs<|zs<|?_
 have e1:0≤w*(A5 l n).1:=Int.mul_nonneg (by omega) (by omega)
 have e2:w*(A5 l n).1≤7741440*32768:=Int.mul_le_mul (by omega) hb.2.1 (by omega) (by omega)
 refine Af (by kernel_rfl)<|zm R R<|zm R R<|zp (G4 R R R (by omega) (by omega))<|zm R R<|zp (D8 R R R (by omega) (by omega))<|zp (Bc R R R)<|zn<|?_
 refine zd R (fun c27=> ?_) (fun c27=> ?_)
 refine zr<|za R R<|za R R<|zn<|zt<|?_
 exact Bs R (RV.tmp R R) (RV.tmp R R) (r2 (rI (Uz g12 c15 c27).1) (rI (Uz g12 c15 c27).2))
 refine zi<|zr<|zm R R<|zm R R<|zp (G4 R R R (by omega) (by omega))<|zm R R<|zp (F9 R R R (by omega) (by omega) (by omega))<|za R R<|za R R<|zn<|zt<|?_
 exact Bs R (RV.tmp R R) (RV.tmp R R) (r2 (rI (Rd g12 c15 c27).1) (rI (Rd g12 c15 c27).2))
end Go.Proofs.YtcihalbakenleaaGreat
namespace Go.Proofs.YtcihalbakenleaaGreat
open Go.RowKit
def Tp.inR (t:Tp) (n:Int):Prop:=1≤t.count∧t.count≤n∧0≤t.first∧t.first≤n - t.count∧(1≤t.actual∧t.actual≤32)∧(1≤t.normal∧t.normal≤32)∧t.actual≠t.normal
instance (t:Tp) (n:Int):Decidable (t.inR n):=by unfold Tp.inR;exact inferInstance
theorem Tp.inR.ok {t:Tp} {n:Int} (h:t.inR n) (hn:n≤128):t.ok:=by unfold Tp.inR at h;unfold Tp.ok;omega
def Cq (t:Tp):List Tp→List Tp
 | []=> []
 |o::r=>if o.e≤t.first then Cq t r else o::r
def Dm (t:Tp) (s:List Tp):Prop:=s.length=3∨match s with| []=>False|o::_=>o.e<t.e
instance (t:Tp) (s:List Tp):Decidable (Dm t s):=by unfold Dm;cases s<;>exact inferInstance
def H8 (p:Option Tp) (t:Tp):Prop:=match p with|some q=>0<Kq q t|none=>False
instance (p:Option Tp) (t:Tp):Decidable (H8 p t):=by unfold H8;cases p<;>exact inferInstance
def E0 (n:Int):Option Tp→List Tp→List Tp→Int
 |_,_, []=>0
 |p,s,t::l=>if ¬t.inR n then 2 else if H8 p t then 25 else if Dm t (Cq t s) then 21 else E0 n (some t) (t::Cq t s) l
def Eb (l:List Tp) (n:Int):Int:=if n<0∨128<n then 2 else if 16<l.length then 9 else E0 n none [] l
def stk (l:List Tp) (k:Nat):List Tp:=(l.take k).foldl (fun s t=>t::Cq t s) []
def Ma (l:List Tp) (k:Nat):Option Tp:=match k with|0=>none|k+1=>l[k]?
theorem B2 {l:List Tp} {k:Nat} {t:Tp} (h:l[k]? =some t):stk l (k+1)=t::Cq t (stk l k):=by
 unfold stk;rw [Bb h,List.foldl_append];rfl
theorem E5 (l:List Tp) (k:Nat):Ma l (k+1)=l[k]? :=rfl
theorem I7 (t:Tp) (s:List Tp):∀x∈Cq t s,x∈s:=by
 induction s with
 |nil=>exact fun x hx=>hx
 |cons o r ih=>
  intro x hx
  unfold Cq at hx
  split at hx
  ·exact List.mem_cons_of_mem _ (ih x hx)
  ·exact hx
theorem Al0 (t:Tp) (s:List Tp):(Cq t s).length≤s.length:=by
 induction s with
 |nil=>exact Nat.le_refl _
 |cons o r ih=>
  unfold Cq
  split
  ·exact Nat.le_trans ih (Nat.le_succ _)
  ·exact Nat.le_refl _
theorem Yq {t o:Tp} {r s:List Tp} (hs:s=o::r) (h:o.e≤t.first):Cq t s=Cq t r:=by rw [hs,Cq,if_pos h]
theorem Afl {t o:Tp} {r s:List Tp} (hs:s=o::r) (h:¬o.e≤t.first):Cq t s=s:=by rw [hs,Cq,if_neg h]
theorem Yr {t:Tp} {s:List Tp} (hs:¬(0:Int)<s.reverse.length):Cq t s=s:=by
 have:s= []:=List.eq_nil_of_length_eq_zero (by rw [List.length_reverse] at hs;omega)
 rw [this];rfl
theorem Oh {s:List Tp} (h:(0:Int)<s.reverse.length):∃o r,s=o::r:=by
 cases s with
 |nil=>simp at h
 |cons o r=>exact ⟨o,r,rfl⟩
theorem Mj {s r:List Tp} {o:Tp} (h:s=o::r):s.reverse[s.length - 1]? =some o:=by rw [h];simp
theorem Lk {s r:List Tp} {o:Tp} (h:s=o::r):((s.reverse).length:Int) - 1=((s.length - 1:Nat):Int):=by rw [h];simp
theorem Og {s r:List Tp} {o:Tp} (h:s=o::r):s.length - 1<s.reverse.length:=by rw [h];simp
theorem Ae6 {s r:List Tp} {o:Tp} (h:s=o::r):some (XO.row 102 4 ((s.reverse.map Tp.c).take (s.length - 1)))=some (XO.row 102 4 (r.reverse.map Tp.c)):=by
 rw [h, ←List.map_take];simp
theorem I1 {s:List Tp} {t:Tp} {l:List Tp} (h:l=t::s):some (XO.row 102 4 (s.reverse.map Tp.c++ [Tp.c t]))=some (XO.row 102 4 (l.reverse.map Tp.c)):=by
 rw [h];simp
theorem T7 {t:Tp} {s:List Tp} (h:(s.reverse.length:Int)=3):Dm t s:= .inl (by rw [List.length_reverse] at h;omega)
theorem Pj {t o:Tp} {s r:List Tp} (hs:s=o::r) (h:o.e<t.e):Dm t s:=by subst hs;exact .inr h
theorem Rh {t o:Tp} {s r:List Tp} (h3:¬(s.reverse.length:Int)=3) (hs:s=o::r) (h:¬o.e<t.e):¬Dm t s:=by
 subst hs;rw [List.length_reverse] at h3;exact fun k=>k.elim (fun k=>by omega) h
theorem Pk {t:Tp} {s:List Tp} (h3:¬(s.reverse.length:Int)=3) (h:¬(0:Int)<s.reverse.length):¬Dm t s:=by
 have:s= []:=List.eq_nil_of_length_eq_zero (by rw [List.length_reverse] at h;omega)
 subst this;exact fun k=>k.elim (fun k=>by simp at k) fun k=>k
theorem Dh {n:Int} {l:List Tp} {k:Nat} {t:Tp} {p s} (h:l[k]? =some t) (h1:¬t.inR n):E0 n p s (l.drop k)=2:=by rw [Ct h,E0,if_pos h1]
theorem Rt {n:Int} {l:List Tp} {k:Nat} {t:Tp} {p s} (h:l[k]? =some t) (h1:t.inR n) (h2:H8 p t):E0 n p s (l.drop k)=25:=by rw [Ct h,E0,if_neg (fun h=>h h1),if_pos h2]
theorem E4 {n:Int} {l:List Tp} {k:Nat} {t:Tp} {p s} (h:l[k]? =some t) (h1:t.inR n) (h2:¬H8 p t) (h3:Dm t (Cq t s)):E0 n p s (l.drop k)=21:=by rw [Ct h,E0,if_neg (fun h=>h h1),if_neg h2,if_pos h3]
theorem F6 {n:Int} {l:List Tp} {k:Nat} {t:Tp} {p s} (h:l[k]? =some t) (h1:t.inR n) (h2:¬H8 p t) (h3:¬Dm t (Cq t s)):E0 n p s (l.drop k)=E0 n (some t) (t::Cq t s) (l.drop (k+1)):=by
 rw [Ct h,E0,if_neg (fun h=>h h1),if_neg h2,if_neg h3]
theorem Xk {l:List Tp} {n:Int} (h:n<0∨128<n):2=Eb l n:=by rw [Eb,if_pos h]
theorem Ang {l:List Tp} {n:Int} (h:¬n<0) (h1:¬128<n) (h2:16<(l.length:Int)):9=Eb l n:=by rw [Eb,if_neg (by omega),if_pos (by omega)]
theorem Dr {l:List Tp} {n e:Int} (h:¬n<0) (h1:¬128<n) (h2:¬16<(l.length:Int)) (he:e=E0 n none [] l):e=Eb l n:=by rw [Eb,if_neg (by omega),if_neg (by omega),he]
theorem Us {l:List Tp} {k:Nat} {t:Tp} (h:¬(0:Int)<k):¬H8 (Ma l k) t:=by
 have:k=0:=by omega
 subst this;exact fun h=>h
theorem P3 {l:List Tp} {k:Nat} {t q:Tp} (hk:0<k) (h:l[k - 1]? =some q):H8 (Ma l k) t↔0<Kq q t:=by
 cases k with
 |zero=>omega
 |succ k=>rw [E5,show l[k]? =some q from h];exact Iff.rfl
theorem Vt (l:List Tp) (n:Int):XC Tryz.prog 139 [.sl 4 (l.map Tp.c), .v (.int .i64 n)] (fun r=>r=dI (Eb l n)):=by
 refine Ap Abf Tryz.func139 R R lb<|zr<|za R R<|zn<|zs<|zr<|zm R R<|zp (At R R R)<|zm R R<|?_
 refine XL.dec 11 R (fun g11=> ?_) (fun g11=> ?_)
 exact zk 2 R<|zq R R R<|zn<|Ao (by kernel_rfl) R<|zr<|za R R<|zn<|zt<|z1 R R (rI (Xk (by omega)))
 refine zm R R<|zp (A6 R R R)<|zq R R R<|zn<|?_
 refine zd R (fun c14=> ?_) (fun c14=> ?_)
 exact zr<|za R R<|zn<|zt<|z1 R R (rI (Xk (by omega)))
 refine zi<|zs<|zr<|zm R R<|XL.len R R R Tryz.underlying23 fun hl16=>zp (A6 R R R)<|zn<|?_
 refine zd R (fun c17=> ?_) (fun c17=> ?_)
 exact zr<|za R R<|zn<|zt<|z1 R R (rI (Ang g11 c14 c17))
 refine zi<|zr<|XL.step R (A9 5 (l:= [.d (.v (.slice none 0 0))]) R An1 (by kernel_rfl))<|znr<|zp (Aqz R)<|zp (Aq R (by conv=>lhs;whnf))<|?_
 refine zn<|zs<|zr<|zm R R<|XL.len R R R Tryz.underlying23 fun hl20=>zm R R<|zn<|Ag<|Jz 900 5 0 102 4 (l':= [.own 900]) R R (by decide) (by kernel_rfl)<|?_
 refine Ax (α:=Nat) (fun k=>k≤l.length∧E0 n (Ma l k) (stk l k) (l.drop k)=E0 n none [] l∧(stk l k).length≤3∧∀t∈stk l k,t.inR n) (fun k=>mkF [(0, .d (.sl 4 (l.map Tp.c))),(1, .d (dI n)),(6, .fn 165 [] [.ptr 5 0 0]),(19, .d (.sl 4 (l.map Tp.c))),(20, .d (dI l.length)),(21, .d (dI k))]) (fun k=>mkH [(5, .box [.own 900]),(900, .row 102 4 ((stk l k).reverse.map Tp.c))]) (fun k=>l.length - k) (0) (⟨Nat.zero_le _,by rw [List.drop_zero];rfl,Nat.zero_le _,fun t ht=>by cases ht⟩) ?_ ?_ ?_
 exact fz ⟨sr,sr,sr,sr,sr,sr,trivial⟩
 exact gz ⟨R,R,trivial⟩
 intro k hk0
 obtain ⟨hk,hgo,hst,hall⟩:=hk0
 refine zr<|zp (At R R R)<|zn<|zs<|?_
 refine zd R (fun c22=> ?_) (fun c22=> ?_)
 have hk0a:k<l.length:=by omega
 obtain ⟨x0,hx0⟩:=As hk0a
 refine zi<|zs<|Ag<|zr<|zm R R<|zp (Aj R R R E6 hx0)<|zp (Ad (s':= .d (.agg (Tp.c x0))) (Ar R R Co lb) (by kernel_rfl))<|XL.step R (A9 8 (l:= [.d (dI 0), .d (dI 0), .d (dI 0), .d (dI 0)]) R Ex (by kernel_rfl))<|za R R<|?_
 refine XL.step R (Ai (l':= [.d (dI x0.first), .d (dI x0.count), .d (dI x0.actual), .d (dI x0.normal)]) R R R R Gw R lb (by kernel_rfl))<|zn<|zs<|zr<|zp (Aa R R Gf)<|zp (Ab R R Ah R R)<|zp (At R R R)<|zm R R<|?_
 refine XL.dec 29 R (fun g29=> ?_) (fun g29=> ?_)
 refine zk 4 R<|zq R R R<|zm R R<|zk 3 R<|zq R R R<|zm R R<|zk 7 R<|zq R R R<|zm R R<|zk 4 R<|zq R R R<|zm R R<|zk 4 R<|zq R R R<|?_
 exact zm R R<|zk 5 R<|zq R R R<|zn<|Ao (by kernel_rfl) R<|zr<|za R R<|zn<|zt<|z1 R R (rI (Dr g11 c14 c17 (by rw [←hgo,Dh hx0 (by unfold Tp.inR;omega)])))
 refine zp (Aa R R Gf)<|zp (Ab R R Ah R R)<|zm R R<|zp (A6 R R R)<|zq R R R<|zm R R<|?_
 refine XL.dec 35 R (fun g35=> ?_) (fun g35=> ?_)
 refine zk 3 R<|zq R R R<|zm R R<|zk 7 R<|zq R R R<|zm R R<|zk 4 R<|zq R R R<|zm R R<|zk 4 R<|zq R R R<|zm R R<|zk 5 R<|zq R R R<|?_
 exact zn<|Ao (by kernel_rfl) R<|zr<|za R R<|zn<|zt<|z1 R R (rI (Dr g11 c14 c17 (by rw [←hgo,Dh hx0 (by unfold Tp.inR;omega)])))
 refine zp (Aa R R Df)<|zp (Ab R R Ah R R)<|zp (At R R R)<|zq R R R<|zm R R<|?_
 refine XL.dec 40 R (fun g40=> ?_) (fun g40=> ?_)
 refine zk 7 R<|zq R R R<|zm R R<|zk 4 R<|zq R R R<|zm R R<|zk 4 R<|zq R R R<|zm R R<|zk 5 R<|zq R R R<|zn<|Ao (by kernel_rfl) R<|zr<|?_
 exact za R R<|zn<|zt<|z1 R R (rI (Dr g11 c14 c17 (by rw [←hgo,Dh hx0 (by unfold Tp.inR;omega)])))
 refine zp (Aa R R Df)<|zp (Ab R R Ah R R)<|zm R R<|zp (Aa R R Gf)<|zp (Ab R R Ah R R)<|zp (C7 R R R (by omega) (by omega))<|zp (A6 R R R)<|zq R R R<|zm R R<|?_
 refine XL.dec 49 R (fun g49=> ?_) (fun g49=> ?_)
 exact zk 4 R<|zq R R R<|zm R R<|zk 4 R<|zq R R R<|zm R R<|zk 5 R<|zq R R R<|zn<|Ao (by kernel_rfl) R<|zr<|za R R<|zn<|zt<|z1 R R (rI (Dr g11 c14 c17 (by rw [←hgo,Dh hx0 (by unfold Tp.inR;omega)])))
 refine zp (Aa R R Ls)<|zp (Ab R R Ah R R)<|XL.call1 R R (Ym _) R<|zp (Bo R R)<|zq R R R<|zm R R<|?_
 refine XL.dec 55 R (fun g55=> ?_) (fun g55=> ?_)
 exact zk 4 R<|zq R R R<|zm R R<|zk 5 R<|zq R R R<|zn<|Ao (by kernel_rfl) R<|zr<|za R R<|zn<|zt<|z1 R R (rI (Dr g11 c14 c17 (by rw [←hgo,Dh hx0 (by unfold Tp.inR;omega)])))
 refine zp (Aa R R N1)<|zp (Ab R R Ah R R)<|XL.call1 R R (Ym _) R<|zp (Bo R R)<|zq R R R<|zm R R<|?_
 refine XL.dec 61 R (fun g61=> ?_) (fun g61=> ?_)
 exact zk 5 R<|zq R R R<|zn<|Ao (by kernel_rfl) R<|zr<|za R R<|zn<|zt<|z1 R R (rI (Dr g11 c14 c17 (by rw [←hgo,Dh hx0 (by unfold Tp.inR;omega)])))
 refine zp (Aa R R Ls)<|zp (Ab R R Ah R R)<|zp (Aa R R N1)<|zp (Ab R R Ah R R)<|zp (Az R R R)<|zq R R R<|zn<|?_
 refine zd R (fun c67=> ?_) (fun c67=> ?_)
 exact zr<|za R R<|zn<|zt<|z1 R R (rI (Dr g11 c14 c17 (by rw [←hgo,Dh hx0 (by unfold Tp.inR;omega)])))
 have hin:x0.inR n:=by unfold Tp.inR;omega
 have hok:x0.ok:=hin.ok (by omega)
 refine zi<|zs<|zs<|?_
 by_cases q69:(0:Int)<(k:Int)
 obtain ⟨q,hq⟩:∃q,l[k - 1]? =some q:=As (by omega)
 refine A8 [] (by kernel_rfl) (by kernel_rfl) (by kernel_rfl) (by decide)<|ym R R<|yp (Dd (A6 R R R) (q69))<|ym R R<|ym R R<|ym R R<|yp (C7 R R R (by omega) (by omega))<|yp (Dl R R R (by omega:(k:Int) - 1=((k - 1:Nat):Int)) E6 hq)<|yp (Ad (s':= .d (.agg (Tp.c q))) (Ar R R Co lb) (by kernel_rfl))<|?_
 refine yp (Ad (s':= .d (.agg (Tp.c x0))) (Ae (Ac R R Co R lb)) (by kernel_rfl))<|ChK.cons R (CStep.call R (Al9 _ _) R)<|yp (A6 R R R)<|yp (Av R R (by conv=>lhs;whnf))<|?_
 refine ChK.nil ⟨by kernel_rfl, ?_⟩
 refine zd R (fun c79=> ?_) (fun c79=> ?_)
 exact zr<|za R R<|zn<|zt<|z1 R R (rI (Dr g11 c14 c17 (by rw [←hgo,Rt hx0 hin ((P3 (by omega) hq).2 c79)])))
 have hna:¬H8 (Ma l k) x0:=fun h=>c79 ((P3 (by omega) hq).1 h)
 refine zi<|zr<|zp (Au R (by conv=>lhs;whnf))<|?_
 refine zp (Ad (s':= .d (.agg (Tp.c x0))) (Ae (Ac R R Co R lb)) (by kernel_rfl))<|?_
 refine XL.inl 900001 [(0, .d (.sl 4 (l.map Tp.c))),(1, .d (dI n)),(6, .fn 165 [] [.ptr 5 0 0]),(19, .d (.sl 4 (l.map Tp.c))),(20, .d (dI l.length)),(21, .d (dI k))] R R .s Q3 Tryz.func165 R R lb (by simp only [List.forall_mem_cons];exact ⟨⟨Nat.le_of_ble_eq_true rfl,rfl⟩,⟨⟨Nat.le_of_ble_eq_true rfl,rfl⟩,⟨⟨Nat.le_of_ble_eq_true rfl,rfl⟩,⟨⟨Nat.le_of_ble_eq_true rfl,rfl⟩,⟨⟨Nat.le_of_ble_eq_true rfl,rfl⟩,⟨⟨Nat.le_of_ble_eq_true rfl,rfl⟩,fun p hp=>(by cases hp)⟩⟩⟩⟩⟩⟩) fun u1=>?_
 refine zr<|XL.step R (Ay 1002 (l:= [.d (dI x0.first), .d (dI x0.count), .d (dI x0.actual), .d (dI x0.normal)]) R R (by kernel_rfl))<|za R R<|zn<|zs<|Ag<|?_
 refine Ax (α:=List Tp) (fun s=>Cq x0 s=Cq x0 (stk l k)∧s.length≤3∧∀t∈s,t.inR n) (fun s=>mkF [(1, .ptr 5 0 0),(2, .ptr 1002 0 0),(3, .d (dB false))]) (fun s=>mkH [(5, .box [.own 900]),(900, .row 102 4 (s.reverse.map Tp.c)),(1002, .box ((Tp.c x0).map S.d)),(900001, .ghost u1 [(0, .d (.sl 4 (l.map Tp.c))),(1, .d (dI n)),(6, .fn 165 [] [.ptr 5 0 0]),(19, .d (.sl 4 (l.map Tp.c))),(20, .d (dI l.length)),(21, .d (dI k))])]) (fun s=>s.length) ((stk l k)) (⟨R,hst,hall⟩) ?_ ?_ ?_
 exact fz ⟨sr,sr,sr,trivial⟩
 exact gz ⟨R,R,R,R,trivial⟩
 intro s hk0i
 obtain ⟨hp,hl3,hso⟩:=hk0i
 have hrl:s.reverse.length=s.length:=List.length_reverse
 refine zs<|zs<|?_
 by_cases q7i:(0:Int)<(s.reverse.length:Int)
 obtain ⟨o,r,hs⟩:=Oh q7i
 have hoo:o.ok:=(hso o (by rw [hs];exact List.mem_cons_self)).ok (by omega)
 refine A8 [] (by kernel_rfl) (by kernel_rfl) (by kernel_rfl) (by decide)<|yp (Ab R R Bz R R)<|yp (Ci R R R Tryz.underlying23)<|yp (Dd (A6 R R R) (q7i))<|ym R R<|yp (Ab R R Bz R R)<|yp (Ab R R Bz R R)<|yp (Ci R R R Tryz.underlying23)<|yp (C7 R R R (by omega) (by omega))<|yp (Ep R R R (Lk hs) R E6 (Og hs))<|?_
 refine yp (Ad (s':= .d (.agg (Tp.c o))) (It R R Co R (E9 (Mj hs)) lb) (by kernel_rfl))<|ChK.cons R (CStep.call R (Hz _ (by assumption)) R)<|yp (Aa R R Df)<|yp (Ab R R Ah R R)<|yp (Fk R R R)<|yp (Av R R (by conv=>lhs;whnf))<|?_
 refine ChK.nil ⟨by kernel_rfl, ?_⟩
 refine zd R (fun c19i=> ?_) (fun c19i=> ?_)
 refine zi<|Ag<|Af (by kernel_rfl)<|zp (Ab R R Bz R R)<|zp (Ab R R Bz R R)<|zp (Ci R R R Tryz.underlying23)<|zp (C7 R R R (by omega) (by omega))<|XL.step R (To R R R E6 (Bd.ati R (Lk hs)) (by simp))<|XL.step R (Ai (l':= [.own 900]) R R R R Ie R lb (by kernel_rfl))<|zn<|Gh<|?_
 exact Al (r) (⟨by rw [←Yq hs c19i];exact hp,by rw [hs] at hl3;simp at hl3;omega,fun t ht=>hso t (by rw [hs];exact List.mem_cons_of_mem _ ht)⟩) (by rw [hs];simp) (fz ⟨sr,sr,sr,trivial⟩) (gz ⟨rfl,Ae6 hs,rfl,rfl,trivial⟩)
 have hend:=Afl hs c19i
 refine An<|zs<|zr<|zp (Ab R R Bz R R)<|zp (Ci R R R Tryz.underlying23)<|za R R<|zn<|zs<|?_
 by_cases q28i:(s.reverse.length:Int)=(3:Int)
 have hov:Dm x0 (Cq x0 (stk l k)):=by rw [←hp,hend];exact T7 q28i
 refine A8 [] (by kernel_rfl) (by kernel_rfl) (by kernel_rfl) (by decide)<|ym R R<|yp (Dd (Az R R R) (q28i))<|ym R R<|ChK.skip R<|ChK.skip R<|ChK.skip R<|ChK.skip R<|ChK.skip R<|ChK.skip R<|ChK.skip R<|ChK.skip R<|ChK.skip R<|ChK.skip R<|?_
 refine ChK.skip R<|ChK.skip R<|ChK.skip R<|yp (Av R R (by conv=>lhs;whnf))<|?_
 refine ChK.nil ⟨by kernel_rfl, ?_⟩
 refine Ao (by kernel_rfl) R<|zr<|za R R<|zn<|zt<|?_
 refine (Gb (l:= [(0, .d (.sl 4 (l.map Tp.c))),(1, .d (dI n)),(6, .fn 165 [] [.ptr 5 0 0]),(19, .d (.sl 4 (l.map Tp.c))),(20, .d (dI l.length)),(21, .d (dI k))]) (by kernel_rfl) (rs1 R (RV.tmp R R)) ?_).2
 exact zp (Cr R R)<|zn<|Ao (by kernel_rfl) R<|zr<|za R R<|zn<|zt<|z1 R R (rI (Dr g11 c14 c17 (by rw [←hgo,E4 hx0 hin hna hov])))
 by_cases q31i:(0:Int)<(s.reverse.length:Int)
 obtain ⟨o,r,hs⟩:=Oh q31i
 have hoo:o.ok:=(hso o (by rw [hs];exact List.mem_cons_self)).ok (by omega)
 refine A8 [] (by kernel_rfl) (by kernel_rfl) (by kernel_rfl) (by decide)<|ym R R<|yp (Fu (Az R R R) (q28i))<|ym R R<|ym R R<|yp (Dd (A6 R R R) (q31i))<|ym R R<|yp (Ad (s':= .d (.agg (Tp.c x0))) (Ae (Ac R R Co R lb)) (by kernel_rfl))<|ChK.cons R (CStep.call R (Hz _ (by assumption)) R)<|yp (Ab R R Bz R R)<|ym R R<|?_
 refine yp (C7 R R R (by omega) (by omega))<|yp (Ep R R R (Lk hs) R E6 (Og hs))<|yp (Ad (s':= .d (.agg (Tp.c o))) (It R R Co R (E9 (Mj hs)) lb) (by kernel_rfl))<|ChK.cons R (CStep.call R (Hz _ (by assumption)) R)<|yp (A6 R R R)<|yp (Av R R (by conv=>lhs;whnf))<|?_
 refine yp (Av R R (by conv=>lhs;whnf))<|?_
 refine ChK.nil ⟨by kernel_rfl, ?_⟩
 refine zd R (fun c43i=> ?_) (fun c43i=> ?_)
 have hov:Dm x0 (Cq x0 (stk l k)):=by rw [←hp,hend];exact Pj hs c43i
 refine zr<|za R R<|zn<|zt<|?_
 refine (Gb (l:= [(0, .d (.sl 4 (l.map Tp.c))),(1, .d (dI n)),(6, .fn 165 [] [.ptr 5 0 0]),(19, .d (.sl 4 (l.map Tp.c))),(20, .d (dI l.length)),(21, .d (dI k))]) (by kernel_rfl) (rs1 R (RV.tmp R R)) ?_).2
 exact zp (Cr R R)<|zn<|Ao (by kernel_rfl) R<|zr<|za R R<|zn<|zt<|z1 R R (rI (Dr g11 c14 c17 (by rw [←hgo,E4 hx0 hin hna hov])))
 have hov:¬Dm x0 (Cq x0 (stk l k)):=by rw [←hp,hend];exact Rh q28i hs c43i
 refine zi<|zr<|zp (Ab R R Bz R R)<|zp (Ad (s':= .d (.agg (Tp.c x0))) (Ae (Ac R R Co R lb)) (by kernel_rfl))<|XL.step R (Bi 1046 R Tryz.underlying23 Gw Ex R R (by omega) (by omega))<|XL.step R (A4 R Hg (.own R) (Src.own R) (by unfold maxLen;simp;omega) (by simp;omega))<|?_
 refine XL.step R (Ai (l':= [.own 900]) R R R R Ie R lb (by kernel_rfl))<|znr<|za R R<|zn<|zt<|?_
 refine (Gb (l:= [(0, .d (.sl 4 (l.map Tp.c))),(1, .d (dI n)),(6, .fn 165 [] [.ptr 5 0 0]),(19, .d (.sl 4 (l.map Tp.c))),(20, .d (dI l.length)),(21, .d (dI k))]) (by kernel_rfl) (rs1 R (RV.tmp R R)) ?_).2
 refine zp (Cr R R)<|zn<|A3 (by kernel_rfl) R<|zi<|Af (by kernel_rfl)<|zp (Ak R R R (by omega) (by omega))<|zm R R<|zn<|?_
 exact Al (k+1) (⟨by omega,by rw [E5,hx0,B2 hx0, ←F6 hx0 hin hna hov];exact hgo,by rw [B2 hx0,List.length_cons, ←hp,hend];omega,fun t ht=>by rw [B2 hx0] at ht;rcases List.mem_cons.1 ht with e|e;(· rw [e];exact hin);(· exact hall t (I7 _ _ t e))⟩) (by omega) (fz ⟨sr,sr,sr,sr,sr,sr,trivial⟩) (gz ⟨rfl,I1 (by rw [B2 hx0, ←hp,hend]),trivial⟩)
 have hov:¬Dm x0 (Cq x0 (stk l k)):=by rw [←hp,hend];exact Pk q28i q31i
 refine A8 [] (by kernel_rfl) (by kernel_rfl) (by kernel_rfl) (by decide)<|ym R R<|yp (Fu (Az R R R) (q28i))<|ym R R<|ym R R<|yp (Fu (A6 R R R) (q31i))<|ym R R<|ChK.skip R<|ChK.skip R<|ChK.skip R<|ChK.skip R<|ChK.skip R<|ChK.skip R<|ChK.skip R<|?_
 refine ChK.skip R<|ChK.skip R<|yp (Av R R (by conv=>lhs;whnf))<|?_
 refine yp (Av R R (by conv=>lhs;whnf))<|?_
 refine ChK.nil ⟨by kernel_rfl, ?_⟩
 refine A3 (by kernel_rfl) R<|zi<|zr<|zp (Ab R R Bz R R)<|zp (Ad (s':= .d (.agg (Tp.c x0))) (Ae (Ac R R Co R lb)) (by kernel_rfl))<|XL.step R (Bi 1046 R Tryz.underlying23 Gw Ex R R (by omega) (by omega))<|XL.step R (A4 R Hg (.own R) (Src.own R) (by unfold maxLen;simp;omega) (by simp;omega))<|?_
 refine XL.step R (Ai (l':= [.own 900]) R R R R Ie R lb (by kernel_rfl))<|znr<|za R R<|zn<|zt<|?_
 refine (Gb (l:= [(0, .d (.sl 4 (l.map Tp.c))),(1, .d (dI n)),(6, .fn 165 [] [.ptr 5 0 0]),(19, .d (.sl 4 (l.map Tp.c))),(20, .d (dI l.length)),(21, .d (dI k))]) (by kernel_rfl) (rs1 R (RV.tmp R R)) ?_).2
 refine zp (Cr R R)<|zn<|A3 (by kernel_rfl) R<|zi<|Af (by kernel_rfl)<|zp (Ak R R R (by omega) (by omega))<|zm R R<|zn<|?_
 exact Al (k+1) (⟨by omega,by rw [E5,hx0,B2 hx0, ←F6 hx0 hin hna hov];exact hgo,by rw [B2 hx0,List.length_cons, ←hp,hend];omega,fun t ht=>by rw [B2 hx0] at ht;rcases List.mem_cons.1 ht with e|e;(· rw [e];exact hin);(· exact hall t (I7 _ _ t e))⟩) (by omega) (fz ⟨sr,sr,sr,sr,sr,sr,trivial⟩) (gz ⟨rfl,I1 (by rw [B2 hx0, ←hp,hend]),trivial⟩)
 have hend:=Yr (t:=x0) q7i
 refine A8 [] (by kernel_rfl) (by kernel_rfl) (by kernel_rfl) (by decide)<|yp (Ab R R Bz R R)<|yp (Ci R R R Tryz.underlying23)<|yp (Fu (A6 R R R) (q7i))<|ym R R<|ChK.skip R<|ChK.skip R<|ChK.skip R<|ChK.skip R<|ChK.skip R<|ChK.skip R<|ChK.skip R<|ChK.skip R<|ChK.skip R<|?_
 refine ChK.skip R<|yp (Av R R (by conv=>lhs;whnf))<|?_
 refine ChK.nil ⟨by kernel_rfl, ?_⟩
 refine A3 (by kernel_rfl) R<|An<|zs<|zr<|zp (Ab R R Bz R R)<|zp (Ci R R R Tryz.underlying23)<|za R R<|zn<|zs<|?_
 by_cases q28i:(s.reverse.length:Int)=(3:Int)
 have hov:Dm x0 (Cq x0 (stk l k)):=by rw [←hp,hend];exact T7 q28i
 refine A8 [] (by kernel_rfl) (by kernel_rfl) (by kernel_rfl) (by decide)<|ym R R<|yp (Dd (Az R R R) (q28i))<|ym R R<|ChK.skip R<|ChK.skip R<|ChK.skip R<|ChK.skip R<|ChK.skip R<|ChK.skip R<|ChK.skip R<|ChK.skip R<|ChK.skip R<|ChK.skip R<|?_
 refine ChK.skip R<|ChK.skip R<|ChK.skip R<|yp (Av R R (by conv=>lhs;whnf))<|?_
 refine ChK.nil ⟨by kernel_rfl, ?_⟩
 refine Ao (by kernel_rfl) R<|zr<|za R R<|zn<|zt<|?_
 refine (Gb (l:= [(0, .d (.sl 4 (l.map Tp.c))),(1, .d (dI n)),(6, .fn 165 [] [.ptr 5 0 0]),(19, .d (.sl 4 (l.map Tp.c))),(20, .d (dI l.length)),(21, .d (dI k))]) (by kernel_rfl) (rs1 R (RV.tmp R R)) ?_).2
 exact zp (Cr R R)<|zn<|Ao (by kernel_rfl) R<|zr<|za R R<|zn<|zt<|z1 R R (rI (Dr g11 c14 c17 (by rw [←hgo,E4 hx0 hin hna hov])))
 by_cases q31i:(0:Int)<(s.reverse.length:Int)
 obtain ⟨o,r,hs⟩:=Oh q31i
 have hoo:o.ok:=(hso o (by rw [hs];exact List.mem_cons_self)).ok (by omega)
 refine A8 [] (by kernel_rfl) (by kernel_rfl) (by kernel_rfl) (by decide)<|ym R R<|yp (Fu (Az R R R) (q28i))<|ym R R<|ym R R<|yp (Dd (A6 R R R) (q31i))<|ym R R<|yp (Ad (s':= .d (.agg (Tp.c x0))) (Ae (Ac R R Co R lb)) (by kernel_rfl))<|ChK.cons R (CStep.call R (Hz _ (by assumption)) R)<|yp (Ab R R Bz R R)<|ym R R<|?_
 refine yp (C7 R R R (by omega) (by omega))<|yp (Ep R R R (Lk hs) R E6 (Og hs))<|yp (Ad (s':= .d (.agg (Tp.c o))) (It R R Co R (E9 (Mj hs)) lb) (by kernel_rfl))<|ChK.cons R (CStep.call R (Hz _ (by assumption)) R)<|yp (A6 R R R)<|yp (Av R R (by conv=>lhs;whnf))<|?_
 refine yp (Av R R (by conv=>lhs;whnf))<|?_
 refine ChK.nil ⟨by kernel_rfl, ?_⟩
 refine zd R (fun c43i=> ?_) (fun c43i=> ?_)
 have hov:Dm x0 (Cq x0 (stk l k)):=by rw [←hp,hend];exact Pj hs c43i
 refine zr<|za R R<|zn<|zt<|?_
 refine (Gb (l:= [(0, .d (.sl 4 (l.map Tp.c))),(1, .d (dI n)),(6, .fn 165 [] [.ptr 5 0 0]),(19, .d (.sl 4 (l.map Tp.c))),(20, .d (dI l.length)),(21, .d (dI k))]) (by kernel_rfl) (rs1 R (RV.tmp R R)) ?_).2
 exact zp (Cr R R)<|zn<|Ao (by kernel_rfl) R<|zr<|za R R<|zn<|zt<|z1 R R (rI (Dr g11 c14 c17 (by rw [←hgo,E4 hx0 hin hna hov])))
 have hov:¬Dm x0 (Cq x0 (stk l k)):=by rw [←hp,hend];exact Rh q28i hs c43i
 refine zi<|zr<|zp (Ab R R Bz R R)<|zp (Ad (s':= .d (.agg (Tp.c x0))) (Ae (Ac R R Co R lb)) (by kernel_rfl))<|XL.step R (Bi 1046 R Tryz.underlying23 Gw Ex R R (by omega) (by omega))<|XL.step R (A4 R Hg (.own R) (Src.own R) (by unfold maxLen;simp;omega) (by simp;omega))<|?_
 refine XL.step R (Ai (l':= [.own 900]) R R R R Ie R lb (by kernel_rfl))<|znr<|za R R<|zn<|zt<|?_
 refine (Gb (l:= [(0, .d (.sl 4 (l.map Tp.c))),(1, .d (dI n)),(6, .fn 165 [] [.ptr 5 0 0]),(19, .d (.sl 4 (l.map Tp.c))),(20, .d (dI l.length)),(21, .d (dI k))]) (by kernel_rfl) (rs1 R (RV.tmp R R)) ?_).2
 refine zp (Cr R R)<|zn<|A3 (by kernel_rfl) R<|zi<|Af (by kernel_rfl)<|zp (Ak R R R (by omega) (by omega))<|zm R R<|zn<|?_
 exact Al (k+1) (⟨by omega,by rw [E5,hx0,B2 hx0, ←F6 hx0 hin hna hov];exact hgo,by rw [B2 hx0,List.length_cons, ←hp,hend];omega,fun t ht=>by rw [B2 hx0] at ht;rcases List.mem_cons.1 ht with e|e;(· rw [e];exact hin);(· exact hall t (I7 _ _ t e))⟩) (by omega) (fz ⟨sr,sr,sr,sr,sr,sr,trivial⟩) (gz ⟨rfl,I1 (by rw [B2 hx0, ←hp,hend]),trivial⟩)
 have hov:¬Dm x0 (Cq x0 (stk l k)):=by rw [←hp,hend];exact Pk q28i q31i
 refine A8 [] (by kernel_rfl) (by kernel_rfl) (by kernel_rfl) (by decide)<|ym R R<|yp (Fu (Az R R R) (q28i))<|ym R R<|ym R R<|yp (Fu (A6 R R R) (q31i))<|ym R R<|ChK.skip R<|ChK.skip R<|ChK.skip R<|ChK.skip R<|ChK.skip R<|ChK.skip R<|ChK.skip R<|?_
 refine ChK.skip R<|ChK.skip R<|yp (Av R R (by conv=>lhs;whnf))<|?_
 refine yp (Av R R (by conv=>lhs;whnf))<|?_
 refine ChK.nil ⟨by kernel_rfl, ?_⟩
 refine A3 (by kernel_rfl) R<|zi<|zr<|zp (Ab R R Bz R R)<|zp (Ad (s':= .d (.agg (Tp.c x0))) (Ae (Ac R R Co R lb)) (by kernel_rfl))<|XL.step R (Bi 1046 R Tryz.underlying23 Gw Ex R R (by omega) (by omega))<|XL.step R (A4 R Hg (.own R) (Src.own R) (by unfold maxLen;simp;omega) (by simp;omega))<|?_
 refine XL.step R (Ai (l':= [.own 900]) R R R R Ie R lb (by kernel_rfl))<|znr<|za R R<|zn<|zt<|?_
 refine (Gb (l:= [(0, .d (.sl 4 (l.map Tp.c))),(1, .d (dI n)),(6, .fn 165 [] [.ptr 5 0 0]),(19, .d (.sl 4 (l.map Tp.c))),(20, .d (dI l.length)),(21, .d (dI k))]) (by kernel_rfl) (rs1 R (RV.tmp R R)) ?_).2
 refine zp (Cr R R)<|zn<|A3 (by kernel_rfl) R<|zi<|Af (by kernel_rfl)<|zp (Ak R R R (by omega) (by omega))<|zm R R<|zn<|?_
 exact Al (k+1) (⟨by omega,by rw [E5,hx0,B2 hx0, ←F6 hx0 hin hna hov];exact hgo,by rw [B2 hx0,List.length_cons, ←hp,hend];omega,fun t ht=>by rw [B2 hx0] at ht;rcases List.mem_cons.1 ht with e|e;(· rw [e];exact hin);(· exact hall t (I7 _ _ t e))⟩) (by omega) (fz ⟨sr,sr,sr,sr,sr,sr,trivial⟩) (gz ⟨rfl,I1 (by rw [B2 hx0, ←hp,hend]),trivial⟩)
 have hna:=Us (l:=l) (t:=x0) q69
 refine A8 [] (by kernel_rfl) (by kernel_rfl) (by kernel_rfl) (by decide)<|ym R R<|yp (Fu (A6 R R R) (q69))<|ym R R<|ChK.skip R<|ChK.skip R<|ChK.skip R<|ChK.skip R<|ChK.skip R<|ChK.skip R<|ChK.skip R<|ChK.skip R<|yp (Av R R (by conv=>lhs;whnf))<|?_
 refine ChK.nil ⟨by kernel_rfl, ?_⟩
 refine A3 (by kernel_rfl) R<|zi<|zr<|zp (Au R (by conv=>lhs;whnf))<|?_
 refine zp (Ad (s':= .d (.agg (Tp.c x0))) (Ae (Ac R R Co R lb)) (by kernel_rfl))<|?_
 refine XL.inl 900002 [(0, .d (.sl 4 (l.map Tp.c))),(1, .d (dI n)),(6, .fn 165 [] [.ptr 5 0 0]),(19, .d (.sl 4 (l.map Tp.c))),(20, .d (dI l.length)),(21, .d (dI k))] R R .s Q3 Tryz.func165 R R lb (by simp only [List.forall_mem_cons];exact ⟨⟨Nat.le_of_ble_eq_true rfl,rfl⟩,⟨⟨Nat.le_of_ble_eq_true rfl,rfl⟩,⟨⟨Nat.le_of_ble_eq_true rfl,rfl⟩,⟨⟨Nat.le_of_ble_eq_true rfl,rfl⟩,⟨⟨Nat.le_of_ble_eq_true rfl,rfl⟩,⟨⟨Nat.le_of_ble_eq_true rfl,rfl⟩,fun p hp=>(by cases hp)⟩⟩⟩⟩⟩⟩) fun u2=>?_
 refine zr<|XL.step R (Ay 2002 (l:= [.d (dI x0.first), .d (dI x0.count), .d (dI x0.actual), .d (dI x0.normal)]) R R (by kernel_rfl))<|za R R<|zn<|zs<|Ag<|?_
 refine Ax (α:=List Tp) (fun s=>Cq x0 s=Cq x0 (stk l k)∧s.length≤3∧∀t∈s,t.inR n) (fun s=>mkF [(1, .ptr 5 0 0),(2, .ptr 2002 0 0),(3, .d (dB false))]) (fun s=>mkH [(5, .box [.own 900]),(900, .row 102 4 (s.reverse.map Tp.c)),(2002, .box ((Tp.c x0).map S.d)),(900002, .ghost u2 [(0, .d (.sl 4 (l.map Tp.c))),(1, .d (dI n)),(6, .fn 165 [] [.ptr 5 0 0]),(19, .d (.sl 4 (l.map Tp.c))),(20, .d (dI l.length)),(21, .d (dI k))])]) (fun s=>s.length) ((stk l k)) (⟨R,hst,hall⟩) ?_ ?_ ?_
 exact fz ⟨sr,sr,sr,trivial⟩
 exact gz ⟨R,R,R,R,trivial⟩
 intro s hk0i
 obtain ⟨hp,hl3,hso⟩:=hk0i
 have hrl:s.reverse.length=s.length:=List.length_reverse
 refine zs<|zs<|?_
 by_cases q7i:(0:Int)<(s.reverse.length:Int)
 obtain ⟨o,r,hs⟩:=Oh q7i
 have hoo:o.ok:=(hso o (by rw [hs];exact List.mem_cons_self)).ok (by omega)
 refine A8 [] (by kernel_rfl) (by kernel_rfl) (by kernel_rfl) (by decide)<|yp (Ab R R Bz R R)<|yp (Ci R R R Tryz.underlying23)<|yp (Dd (A6 R R R) (q7i))<|ym R R<|yp (Ab R R Bz R R)<|yp (Ab R R Bz R R)<|yp (Ci R R R Tryz.underlying23)<|yp (C7 R R R (by omega) (by omega))<|yp (Ep R R R (Lk hs) R E6 (Og hs))<|?_
 refine yp (Ad (s':= .d (.agg (Tp.c o))) (It R R Co R (E9 (Mj hs)) lb) (by kernel_rfl))<|ChK.cons R (CStep.call R (Hz _ (by assumption)) R)<|yp (Aa R R Df)<|yp (Ab R R Ah R R)<|yp (Fk R R R)<|yp (Av R R (by conv=>lhs;whnf))<|?_
 refine ChK.nil ⟨by kernel_rfl, ?_⟩
 refine zd R (fun c19i=> ?_) (fun c19i=> ?_)
 refine zi<|Ag<|Af (by kernel_rfl)<|zp (Ab R R Bz R R)<|zp (Ab R R Bz R R)<|zp (Ci R R R Tryz.underlying23)<|zp (C7 R R R (by omega) (by omega))<|XL.step R (To R R R E6 (Bd.ati R (Lk hs)) (by simp))<|XL.step R (Ai (l':= [.own 900]) R R R R Ie R lb (by kernel_rfl))<|zn<|Gh<|?_
 exact Al (r) (⟨by rw [←Yq hs c19i];exact hp,by rw [hs] at hl3;simp at hl3;omega,fun t ht=>hso t (by rw [hs];exact List.mem_cons_of_mem _ ht)⟩) (by rw [hs];simp) (fz ⟨sr,sr,sr,trivial⟩) (gz ⟨rfl,Ae6 hs,rfl,rfl,trivial⟩)
 have hend:=Afl hs c19i
 refine An<|zs<|zr<|zp (Ab R R Bz R R)<|zp (Ci R R R Tryz.underlying23)<|za R R<|zn<|zs<|?_
 by_cases q28i:(s.reverse.length:Int)=(3:Int)
 have hov:Dm x0 (Cq x0 (stk l k)):=by rw [←hp,hend];exact T7 q28i
 refine A8 [] (by kernel_rfl) (by kernel_rfl) (by kernel_rfl) (by decide)<|ym R R<|yp (Dd (Az R R R) (q28i))<|ym R R<|ChK.skip R<|ChK.skip R<|ChK.skip R<|ChK.skip R<|ChK.skip R<|ChK.skip R<|ChK.skip R<|ChK.skip R<|ChK.skip R<|ChK.skip R<|?_
 refine ChK.skip R<|ChK.skip R<|ChK.skip R<|yp (Av R R (by conv=>lhs;whnf))<|?_
 refine ChK.nil ⟨by kernel_rfl, ?_⟩
 refine Ao (by kernel_rfl) R<|zr<|za R R<|zn<|zt<|?_
 refine (Gb (l:= [(0, .d (.sl 4 (l.map Tp.c))),(1, .d (dI n)),(6, .fn 165 [] [.ptr 5 0 0]),(19, .d (.sl 4 (l.map Tp.c))),(20, .d (dI l.length)),(21, .d (dI k))]) (by kernel_rfl) (rs1 R (RV.tmp R R)) ?_).2
 exact zp (Cr R R)<|zn<|Ao (by kernel_rfl) R<|zr<|za R R<|zn<|zt<|z1 R R (rI (Dr g11 c14 c17 (by rw [←hgo,E4 hx0 hin hna hov])))
 by_cases q31i:(0:Int)<(s.reverse.length:Int)
 obtain ⟨o,r,hs⟩:=Oh q31i
 have hoo:o.ok:=(hso o (by rw [hs];exact List.mem_cons_self)).ok (by omega)
 refine A8 [] (by kernel_rfl) (by kernel_rfl) (by kernel_rfl) (by decide)<|ym R R<|yp (Fu (Az R R R) (q28i))<|ym R R<|ym R R<|yp (Dd (A6 R R R) (q31i))<|ym R R<|yp (Ad (s':= .d (.agg (Tp.c x0))) (Ae (Ac R R Co R lb)) (by kernel_rfl))<|ChK.cons R (CStep.call R (Hz _ (by assumption)) R)<|yp (Ab R R Bz R R)<|ym R R<|?_
 refine yp (C7 R R R (by omega) (by omega))<|yp (Ep R R R (Lk hs) R E6 (Og hs))<|yp (Ad (s':= .d (.agg (Tp.c o))) (It R R Co R (E9 (Mj hs)) lb) (by kernel_rfl))<|ChK.cons R (CStep.call R (Hz _ (by assumption)) R)<|yp (A6 R R R)<|yp (Av R R (by conv=>lhs;whnf))<|?_
 refine yp (Av R R (by conv=>lhs;whnf))<|?_
 refine ChK.nil ⟨by kernel_rfl, ?_⟩
 refine zd R (fun c43i=> ?_) (fun c43i=> ?_)
 have hov:Dm x0 (Cq x0 (stk l k)):=by rw [←hp,hend];exact Pj hs c43i
 refine zr<|za R R<|zn<|zt<|?_
 refine (Gb (l:= [(0, .d (.sl 4 (l.map Tp.c))),(1, .d (dI n)),(6, .fn 165 [] [.ptr 5 0 0]),(19, .d (.sl 4 (l.map Tp.c))),(20, .d (dI l.length)),(21, .d (dI k))]) (by kernel_rfl) (rs1 R (RV.tmp R R)) ?_).2
 exact zp (Cr R R)<|zn<|Ao (by kernel_rfl) R<|zr<|za R R<|zn<|zt<|z1 R R (rI (Dr g11 c14 c17 (by rw [←hgo,E4 hx0 hin hna hov])))
 have hov:¬Dm x0 (Cq x0 (stk l k)):=by rw [←hp,hend];exact Rh q28i hs c43i
 refine zi<|zr<|zp (Ab R R Bz R R)<|zp (Ad (s':= .d (.agg (Tp.c x0))) (Ae (Ac R R Co R lb)) (by kernel_rfl))<|XL.step R (Bi 2046 R Tryz.underlying23 Gw Ex R R (by omega) (by omega))<|XL.step R (A4 R Hg (.own R) (Src.own R) (by unfold maxLen;simp;omega) (by simp;omega))<|?_
 refine XL.step R (Ai (l':= [.own 900]) R R R R Ie R lb (by kernel_rfl))<|znr<|za R R<|zn<|zt<|?_
 refine (Gb (l:= [(0, .d (.sl 4 (l.map Tp.c))),(1, .d (dI n)),(6, .fn 165 [] [.ptr 5 0 0]),(19, .d (.sl 4 (l.map Tp.c))),(20, .d (dI l.length)),(21, .d (dI k))]) (by kernel_rfl) (rs1 R (RV.tmp R R)) ?_).2
 refine zp (Cr R R)<|zn<|A3 (by kernel_rfl) R<|zi<|Af (by kernel_rfl)<|zp (Ak R R R (by omega) (by omega))<|zm R R<|zn<|?_
 exact Al (k+1) (⟨by omega,by rw [E5,hx0,B2 hx0, ←F6 hx0 hin hna hov];exact hgo,by rw [B2 hx0,List.length_cons, ←hp,hend];omega,fun t ht=>by rw [B2 hx0] at ht;rcases List.mem_cons.1 ht with e|e;(· rw [e];exact hin);(· exact hall t (I7 _ _ t e))⟩) (by omega) (fz ⟨sr,sr,sr,sr,sr,sr,trivial⟩) (gz ⟨rfl,I1 (by rw [B2 hx0, ←hp,hend]),trivial⟩)
 have hov:¬Dm x0 (Cq x0 (stk l k)):=by rw [←hp,hend];exact Pk q28i q31i
 refine A8 [] (by kernel_rfl) (by kernel_rfl) (by kernel_rfl) (by decide)<|ym R R<|yp (Fu (Az R R R) (q28i))<|ym R R<|ym R R<|yp (Fu (A6 R R R) (q31i))<|ym R R<|ChK.skip R<|ChK.skip R<|ChK.skip R<|ChK.skip R<|ChK.skip R<|ChK.skip R<|ChK.skip R<|?_
 refine ChK.skip R<|ChK.skip R<|yp (Av R R (by conv=>lhs;whnf))<|?_
 refine yp (Av R R (by conv=>lhs;whnf))<|?_
 refine ChK.nil ⟨by kernel_rfl, ?_⟩
 refine A3 (by kernel_rfl) R<|zi<|zr<|zp (Ab R R Bz R R)<|zp (Ad (s':= .d (.agg (Tp.c x0))) (Ae (Ac R R Co R lb)) (by kernel_rfl))<|XL.step R (Bi 2046 R Tryz.underlying23 Gw Ex R R (by omega) (by omega))<|XL.step R (A4 R Hg (.own R) (Src.own R) (by unfold maxLen;simp;omega) (by simp;omega))<|?_
 refine XL.step R (Ai (l':= [.own 900]) R R R R Ie R lb (by kernel_rfl))<|znr<|za R R<|zn<|zt<|?_
 refine (Gb (l:= [(0, .d (.sl 4 (l.map Tp.c))),(1, .d (dI n)),(6, .fn 165 [] [.ptr 5 0 0]),(19, .d (.sl 4 (l.map Tp.c))),(20, .d (dI l.length)),(21, .d (dI k))]) (by kernel_rfl) (rs1 R (RV.tmp R R)) ?_).2
 refine zp (Cr R R)<|zn<|A3 (by kernel_rfl) R<|zi<|Af (by kernel_rfl)<|zp (Ak R R R (by omega) (by omega))<|zm R R<|zn<|?_
 exact Al (k+1) (⟨by omega,by rw [E5,hx0,B2 hx0, ←F6 hx0 hin hna hov];exact hgo,by rw [B2 hx0,List.length_cons, ←hp,hend];omega,fun t ht=>by rw [B2 hx0] at ht;rcases List.mem_cons.1 ht with e|e;(· rw [e];exact hin);(· exact hall t (I7 _ _ t e))⟩) (by omega) (fz ⟨sr,sr,sr,sr,sr,sr,trivial⟩) (gz ⟨rfl,I1 (by rw [B2 hx0, ←hp,hend]),trivial⟩)
 have hend:=Yr (t:=x0) q7i
 refine A8 [] (by kernel_rfl) (by kernel_rfl) (by kernel_rfl) (by decide)<|yp (Ab R R Bz R R)<|yp (Ci R R R Tryz.underlying23)<|yp (Fu (A6 R R R) (q7i))<|ym R R<|ChK.skip R<|ChK.skip R<|ChK.skip R<|ChK.skip R<|ChK.skip R<|ChK.skip R<|ChK.skip R<|ChK.skip R<|ChK.skip R<|?_
 refine ChK.skip R<|yp (Av R R (by conv=>lhs;whnf))<|?_
 refine ChK.nil ⟨by kernel_rfl, ?_⟩
 refine A3 (by kernel_rfl) R<|An<|zs<|zr<|zp (Ab R R Bz R R)<|zp (Ci R R R Tryz.underlying23)<|za R R<|zn<|zs<|?_
 by_cases q28i:(s.reverse.length:Int)=(3:Int)
 have hov:Dm x0 (Cq x0 (stk l k)):=by rw [←hp,hend];exact T7 q28i
 refine A8 [] (by kernel_rfl) (by kernel_rfl) (by kernel_rfl) (by decide)<|ym R R<|yp (Dd (Az R R R) (q28i))<|ym R R<|ChK.skip R<|ChK.skip R<|ChK.skip R<|ChK.skip R<|ChK.skip R<|ChK.skip R<|ChK.skip R<|ChK.skip R<|ChK.skip R<|ChK.skip R<|?_
 refine ChK.skip R<|ChK.skip R<|ChK.skip R<|yp (Av R R (by conv=>lhs;whnf))<|?_
 refine ChK.nil ⟨by kernel_rfl, ?_⟩
 refine Ao (by kernel_rfl) R<|zr<|za R R<|zn<|zt<|?_
 refine (Gb (l:= [(0, .d (.sl 4 (l.map Tp.c))),(1, .d (dI n)),(6, .fn 165 [] [.ptr 5 0 0]),(19, .d (.sl 4 (l.map Tp.c))),(20, .d (dI l.length)),(21, .d (dI k))]) (by kernel_rfl) (rs1 R (RV.tmp R R)) ?_).2
 exact zp (Cr R R)<|zn<|Ao (by kernel_rfl) R<|zr<|za R R<|zn<|zt<|z1 R R (rI (Dr g11 c14 c17 (by rw [←hgo,E4 hx0 hin hna hov])))
 by_cases q31i:(0:Int)<(s.reverse.length:Int)
 obtain ⟨o,r,hs⟩:=Oh q31i
 have hoo:o.ok:=(hso o (by rw [hs];exact List.mem_cons_self)).ok (by omega)
 refine A8 [] (by kernel_rfl) (by kernel_rfl) (by kernel_rfl) (by decide)<|ym R R<|yp (Fu (Az R R R) (q28i))<|ym R R<|ym R R<|yp (Dd (A6 R R R) (q31i))<|ym R R<|yp (Ad (s':= .d (.agg (Tp.c x0))) (Ae (Ac R R Co R lb)) (by kernel_rfl))<|ChK.cons R (CStep.call R (Hz _ (by assumption)) R)<|yp (Ab R R Bz R R)<|ym R R<|?_
 refine yp (C7 R R R (by omega) (by omega))<|yp (Ep R R R (Lk hs) R E6 (Og hs))<|yp (Ad (s':= .d (.agg (Tp.c o))) (It R R Co R (E9 (Mj hs)) lb) (by kernel_rfl))<|ChK.cons R (CStep.call R (Hz _ (by assumption)) R)<|yp (A6 R R R)<|yp (Av R R (by conv=>lhs;whnf))<|?_
 refine yp (Av R R (by conv=>lhs;whnf))<|?_
 refine ChK.nil ⟨by kernel_rfl, ?_⟩
 refine zd R (fun c43i=> ?_) (fun c43i=> ?_)
 have hov:Dm x0 (Cq x0 (stk l k)):=by rw [←hp,hend];exact Pj hs c43i
 refine zr<|za R R<|zn<|zt<|?_
 refine (Gb (l:= [(0, .d (.sl 4 (l.map Tp.c))),(1, .d (dI n)),(6, .fn 165 [] [.ptr 5 0 0]),(19, .d (.sl 4 (l.map Tp.c))),(20, .d (dI l.length)),(21, .d (dI k))]) (by kernel_rfl) (rs1 R (RV.tmp R R)) ?_).2
 exact zp (Cr R R)<|zn<|Ao (by kernel_rfl) R<|zr<|za R R<|zn<|zt<|z1 R R (rI (Dr g11 c14 c17 (by rw [←hgo,E4 hx0 hin hna hov])))
 have hov:¬Dm x0 (Cq x0 (stk l k)):=by rw [←hp,hend];exact Rh q28i hs c43i
 refine zi<|zr<|zp (Ab R R Bz R R)<|zp (Ad (s':= .d (.agg (Tp.c x0))) (Ae (Ac R R Co R lb)) (by kernel_rfl))<|XL.step R (Bi 2046 R Tryz.underlying23 Gw Ex R R (by omega) (by omega))<|XL.step R (A4 R Hg (.own R) (Src.own R) (by unfold maxLen;simp;omega) (by simp;omega))<|?_
 refine XL.step R (Ai (l':= [.own 900]) R R R R Ie R lb (by kernel_rfl))<|znr<|za R R<|zn<|zt<|?_
 refine (Gb (l:= [(0, .d (.sl 4 (l.map Tp.c))),(1, .d (dI n)),(6, .fn 165 [] [.ptr 5 0 0]),(19, .d (.sl 4 (l.map Tp.c))),(20, .d (dI l.length)),(21, .d (dI k))]) (by kernel_rfl) (rs1 R (RV.tmp R R)) ?_).2
 refine zp (Cr R R)<|zn<|A3 (by kernel_rfl) R<|zi<|Af (by kernel_rfl)<|zp (Ak R R R (by omega) (by omega))<|zm R R<|zn<|?_
 exact Al (k+1) (⟨by omega,by rw [E5,hx0,B2 hx0, ←F6 hx0 hin hna hov];exact hgo,by rw [B2 hx0,List.length_cons, ←hp,hend];omega,fun t ht=>by rw [B2 hx0] at ht;rcases List.mem_cons.1 ht with e|e;(· rw [e];exact hin);(· exact hall t (I7 _ _ t e))⟩) (by omega) (fz ⟨sr,sr,sr,sr,sr,sr,trivial⟩) (gz ⟨rfl,I1 (by rw [B2 hx0, ←hp,hend]),trivial⟩)
 have hov:¬Dm x0 (Cq x0 (stk l k)):=by rw [←hp,hend];exact Pk q28i q31i
 refine A8 [] (by kernel_rfl) (by kernel_rfl) (by kernel_rfl) (by decide)<|ym R R<|yp (Fu (Az R R R) (q28i))<|ym R R<|ym R R<|yp (Fu (A6 R R R) (q31i))<|ym R R<|ChK.skip R<|ChK.skip R<|ChK.skip R<|ChK.skip R<|ChK.skip R<|ChK.skip R<|ChK.skip R<|?_
 refine ChK.skip R<|ChK.skip R<|yp (Av R R (by conv=>lhs;whnf))<|?_
 refine yp (Av R R (by conv=>lhs;whnf))<|?_
 refine ChK.nil ⟨by kernel_rfl, ?_⟩
 refine A3 (by kernel_rfl) R<|zi<|zr<|zp (Ab R R Bz R R)<|zp (Ad (s':= .d (.agg (Tp.c x0))) (Ae (Ac R R Co R lb)) (by kernel_rfl))<|XL.step R (Bi 2046 R Tryz.underlying23 Gw Ex R R (by omega) (by omega))<|XL.step R (A4 R Hg (.own R) (Src.own R) (by unfold maxLen;simp;omega) (by simp;omega))<|?_
 refine XL.step R (Ai (l':= [.own 900]) R R R R Ie R lb (by kernel_rfl))<|znr<|za R R<|zn<|zt<|?_
 refine (Gb (l:= [(0, .d (.sl 4 (l.map Tp.c))),(1, .d (dI n)),(6, .fn 165 [] [.ptr 5 0 0]),(19, .d (.sl 4 (l.map Tp.c))),(20, .d (dI l.length)),(21, .d (dI k))]) (by kernel_rfl) (rs1 R (RV.tmp R R)) ?_).2
 refine zp (Cr R R)<|zn<|A3 (by kernel_rfl) R<|zi<|Af (by kernel_rfl)<|zp (Ak R R R (by omega) (by omega))<|zm R R<|zn<|?_
 exact Al (k+1) (⟨by omega,by rw [E5,hx0,B2 hx0, ←F6 hx0 hin hna hov];exact hgo,by rw [B2 hx0,List.length_cons, ←hp,hend];omega,fun t ht=>by rw [B2 hx0] at ht;rcases List.mem_cons.1 ht with e|e;(· rw [e];exact hin);(· exact hall t (I7 _ _ t e))⟩) (by omega) (fz ⟨sr,sr,sr,sr,sr,sr,trivial⟩) (gz ⟨rfl,I1 (by rw [B2 hx0, ←hp,hend]),trivial⟩)
 have hk0b:k=l.length:=by omega
 have hz:E0 n none [] l=0:=by rw [←hgo,hk0b,List.drop_length];rfl
 exact An<|zr<|za R R<|zn<|zt<|z1 R R (rI (Dr g11 c14 c17 hz.symm))
end Go.Proofs.YtcihalbakenleaaGreat
namespace Go.Proofs.YtcihalbakenleaaGreat
open Go.RowKit
theorem Ww (t:Tp) (l:List Tp) (n:Int):hits (t::l) n=hits l n+(if t.has n then 1 else 0):=by
 unfold hits
 rw [List.filter_cons]
 by_cases h:t.has n<;>simp [h]
theorem S8 (l:List Tp) (n:Int):hits l n≤l.length:=List.length_filter_le _ _
theorem Amq (t:Tp) (s:List Tp) (n:Int) (hn:t.first≤n):hits (Cq t s) n=hits s n:=by
 induction s with
 |nil=>rfl
 |cons o r ih=>
  unfold Cq
  split
  ·rename_i h
   rw [ih,Ww,if_neg (fun k=>by unfold Tp.has at k;unfold Tp.e at h;omega)]
   rfl
  ·rfl
theorem Aha {q t:Tp} (h:¬0<Kq q t):q.first≤t.first:=by
 unfold Kq at h
 split at h
 ·split at h<;>omega
 ·omega
theorem Agk (n:Int) (l:List Tp):∀(p:Option Tp) (s L:List Tp),E0 n p s l=0→s.length≤3→(∀e,hits L e≤3)→(∀e,(∀q,p=some q→q.first≤e)→hits L e=hits s e)→∀e,hits (L++l) e≤3:=by
 induction l with
 |nil=>intro p s L _ _ h1 _ e;rw [List.append_nil];exact h1 e
 |cons t l ih=>
  intro p s L hz hs h1 h2 e
  rw [E0] at hz
  split at hz
  ·omega
  ·split at hz
   ·omega
   ·rename_i hin hna
    split at hz
    ·omega
    ·rename_i hov
     have hp:∀q,p=some q→q.first≤t.first:=fun q hq=>by subst hq;exact Aha hna
     have h3:(t::Cq t s).length≤3:=by
      have h4:=Al0 t s
      have h5:¬(Cq t s).length=3:=fun k=>hov (.inl k)
      rw [List.length_cons]
      omega
     have heq:∀e,t.first≤e→hits (L++ [t]) e=hits (t::Cq t s) e:=fun e he=>by
      rw [H9,Ww,Amq t s e he,h2 e (fun q hq=>Int.le_trans (hp q hq) he)]
     have:=ih (some t) (t::Cq t s) (L++ [t]) hz h3 (fun e=> ?_) (fun e he=>heq e (he t rfl)) e
     ·rw [List.append_assoc] at this;exact this
     ·by_cases he:t.first≤e
      ·rw [heq e he];exact Nat.le_trans (S8 _ _) h3
      ·rw [H9,if_neg (fun k=>he k.1)];exact h1 e
theorem Ala (n:Int) (l:List Tp):∀(p:Option Tp) (s:List Tp),E0 n p s l=0→∀t∈l,t.inR n:=by
 induction l with
 |nil=>intro p s _ t ht;cases ht
 |cons t l ih=>
  intro p s hz x hx
  rw [E0] at hz
  split at hz
  ·omega
  ·rename_i hin
   split at hz
   ·omega
   ·split at hz
    ·omega
    ·rcases List.mem_cons.1 hx with e|e
     ·rw [e];exact Decidable.not_not.1 hin
     ·exact ih _ _ hz x e
structure Tups (l:List Tp) (n:Int):Prop where
 bd:0≤n∧n≤128
 len:l.length≤16
 inR:∀t∈l,t.inR n
 ok:∀t∈l,t.ok
 hits:∀e,hits l e≤3
theorem Ra {l:List Tp} {n:Int} (h:¬Eb l n≠0):Tups l n:=by
 have h0:Eb l n=0:=by omega
 unfold Eb at h0
 split at h0
 ·omega
 ·split at h0
  ·omega
  ·have hi:=Ala n l _ _ h0
   refine ⟨by omega,by omega,hi,fun t ht=>(hi t ht).ok (by omega),fun e=> ?_⟩
   have:=Agk n l none [] [] h0 (by decide) (fun e=>Nat.zero_le _) (fun e _=>rfl) e
   rwa [List.nil_append] at this
def C4 (l:List Tp):Nat→List Int→List Int
 |_, []=> []
 |i,w::r=>Du l i w::C4 l (i+1) r
def Ii (l:List Tp):Nat→List Int→Int
 |_, []=>0
 |i,w::r=>if Dv l i w≠0 then Dv l i w else Ii l (i+1) r
def C2 (l:List Tp) (ws:List Int):Int:=if Eb l ws.length≠0 then Eb l ws.length else Ii l 0 ws
def Ha (l:List Tp) (ws:List Int):List Int:=if C2 l ws=0 then C4 l 0 ws else []
theorem Ahk (l:List Tp) (a:List Int) (w:Int):∀i,C4 l i (a++ [w])=C4 l i a++ [Du l ((i+a.length:Nat):Int) w]:=by
 induction a with
 |nil=>intro i;rfl
 |cons x a ih=>
  intro i
  rw [List.cons_append,C4,ih (i+1),C4,List.cons_append,List.length_cons,show i+1+a.length=i+(a.length+1) by omega]
theorem R1 {l:List Tp} {ws:List Int} {k:Nat} {w:Int} (h:ws[k]? =some w):C4 l 0 (ws.take (k+1))=C4 l 0 (ws.take k)++ [Du l (k:Int) w]:=by
 have hk:=(List.getElem?_eq_some_iff.1 h).1
 rw [Bb h,Ahk,List.length_take,Nat.zero_add,Nat.min_eq_left (by omega)]
theorem Il (l:List Tp) (ws:List Int):∀i,(C4 l i ws).length=ws.length:=by
 induction ws with
 |nil=>intro i;rfl
 |cons w r ih=>intro i;rw [C4,List.length_cons,ih,List.length_cons]
theorem Vz {l:List Tp} {ws:List Int} {k:Nat} {w:Int} (h:ws[k]? =some w) (hx:¬Dv l k w≠0):Ii l k (ws.drop k)=Ii l (k+1) (ws.drop (k+1)):=by rw [Ct h,Ii,if_neg hx]
theorem I5 {l:List Tp} {ws:List Int} {k:Nat} {w:Int} (h:ws[k]? =some w) (hx:Dv l k w≠0):Ii l k (ws.drop k)=Dv l k w:=by rw [Ct h,Ii,if_pos hx]
theorem Tn {l:List Tp} {ws:List Int} (h:Eb l ws.length≠0): []=Ha l ws∧Eb l ws.length=C2 l ws:=by
 have e:C2 l ws=Eb l ws.length:=by rw [C2,if_pos h]
 exact ⟨by rw [Ha,e,if_neg h],e.symm⟩
theorem Ll {l:List Tp} {ws:List Int} (h:¬Eb l ws.length≠0) {e:Int} (he:e=Ii l 0 ws) (hn:e≠0): []=Ha l ws∧e=C2 l ws:=by
 have e2:C2 l ws=e:=by rw [C2,if_neg h,he]
 exact ⟨by rw [Ha,e2,if_neg hn],e2.symm⟩
theorem Tm {l:List Tp} {ws:List Int} (h:¬Eb l ws.length≠0) (he:Ii l 0 ws=0):C4 l 0 ws=Ha l ws∧0=C2 l ws:=by
 have e2:C2 l ws=0:=by rw [C2,if_neg h,he]
 exact ⟨by rw [Ha,e2,if_pos rfl],e2.symm⟩
theorem Ru (l:List Tp) (ws:List Int):XC Tryz.prog 133 [.sl 4 (l.map Tp.c), .sl 1 (Bu ws)] (fun r=>r= .tup [.sl 1 (Bu (Ha l ws)),dI (C2 l ws)]):=by
 refine Ap Abi Tryz.func133 R R lb<|zr<|za R R<|za R R<|zn<|zs<|zr<|zm R R<|zm R R<|XL.len R R R Tryz.underlying64 fun hl14=>XL.call1 R R (Vt _ _) R<|za R R<|znr<|zm R R<|?_
 refine zp (Bc R R R)<|zn<|?_
 refine zd R (fun c17=> ?_) (fun c17=> ?_)
 refine zr<|zm R R<|za R R<|za R R<|zn<|zt<|?_
 exact Bs R (RV.nil (sz:=1) R R) (RV.tmp R R) (r2 (rSl (Tn c17).1) (rI (Tn c17).2))
 refine zi<|zs<|?_
 have hT:=Ra c17
 have hbd:=hT.bd
 refine Af (by kernel_rfl)<|zm R R<|XL.len R R R Tryz.underlying64 fun hl20=>XL.step R (Oi 21 (m:=0) (z:=(.int .i64 0)) (zs:= [dI 0]) (sz:=1) (bytes:=8) R R R Tryz.underlying64 (by kernel_rfl) (by kernel_rfl) (by kernel_rfl) (by decide) (by decide) (by omega) (by unfold maxLen;omega) (by omega))<|zp (Aq R (by conv=>lhs;whnf))<|?_
 refine zn<|zs<|zr<|zm R R<|XL.len R R R Tryz.underlying64 fun hl23=>zm R R<|zn<|Ag<|?_
 refine Ax (α:=Nat) (fun k=>k≤ws.length∧Ii l k (ws.drop k)=Ii l 0 ws) (fun k=>mkF [(0, .d (.sl 4 (l.map Tp.c))),(7, .own 21),(22, .d (.sl 1 (Bu ws))),(23, .d (dI ws.length)),(24, .d (dI k))]) (fun k=>mkH [(21, .row 3 1 ((C4 l 0 (ws.take k)).map iv))]) (fun k=>ws.length - k) (0) (⟨Nat.zero_le _,by rw [List.drop_zero]⟩) ?_ ?_ ?_
 exact fz ⟨sr,sr,sr,sr,sr,trivial⟩
 exact gz ⟨R,trivial⟩
 intro k hk0
 obtain ⟨hk,hgo⟩:=hk0
 refine zr<|zp (At R R R)<|zn<|zs<|?_
 refine zd R (fun c25=> ?_) (fun c25=> ?_)
 have hk0a:k<ws.length:=by omega
 obtain ⟨x0,hx0⟩:=As hk0a
 have hok:=hT.ok
 have hh:=hT.hits k
 have hll:(C4 l 0 (ws.take k)).length=k:=by rw [Il,List.length_take];omega
 refine zi<|zs<|Ag<|zr<|zm R R<|zp (Aj R R R C5 hx0)<|zp (Aw R R Ah)<|za R R<|za R R<|znr<|zm R R<|zm R R<|zm R R<|XL.call1 R R (Yd _ _ _ (by assumption) (by assumption) (by omega) (by omega)) R<|?_
 refine zm R R<|zp (Bh R R R)<|zp (Bh R R R)<|za R R<|za R R<|zn<|zs<|zr<|zm R R<|zp (Bc R R R)<|zn<|?_
 refine zd R (fun c37=> ?_) (fun c37=> ?_)
 refine zr<|zm R R<|za R R<|za R R<|zn<|zt<|?_
 exact Bs R (RV.nil (sz:=1) R R) (RV.tmp R R) (r2 (rSl (Ll c17 (by rw [←hgo,I5 hx0 c37]) c37).1) (rI (Ll c17 (by rw [←hgo,I5 hx0 c37]) c37).2))
 refine zi<|Af (by kernel_rfl)<|zp (Au R (by conv=>lhs;whnf))<|?_
 refine zm R R<|XL.step R (Bi 41 R Tryz.underlying64 C0 Eu R R (by omega) (by omega))<|XL.step R (A4 R G0 (.own R) (Src.own R) (by unfold maxLen;simp;omega) (by simp;omega))<|zp (Aq R (by conv=>lhs;whnf))<|?_
 refine zn<|Af (by kernel_rfl)<|zp (Ak R R R (by omega) (by omega))<|zm R R<|zn<|?_
 exact Al (k+1) (⟨by omega,by rw [←Vz hx0 c37];exact hgo⟩) (by omega) (fz ⟨sr,sr,sr,sr,sr,trivial⟩) (gz ⟨E7 rfl (R1 hx0),trivial⟩)
 have hk0b:k=ws.length:=by omega
 have hz:Ii l 0 ws=0:=by rw [←hgo,hk0b,List.drop_length];rfl
 have ht:ws.take k=ws:=by rw [hk0b,List.take_length]
 refine An<|zr<|zp (Au R (by conv=>lhs;whnf))<|?_
 refine zp (Aq R (by conv=>lhs;whnf))<|?_
 refine za R R<|zn<|zt<|Bj (i:=21) R<|?_
 exact Bs R (RV.tmp R R) (RV.tmp R R) (r2 (rSl (by rw [ht];exact (Tm c17 hz).1)) (rI (Tm c17 hz).2))
abbrev Kl (l:List Tp) (i:Nat):List Tp:=(l.take l.length).drop (i+1)
def Fi (l:List Tp):Nat→List Int→Int→Option Int
 |_, [],acc=>some acc
 |i,w::r,acc=>if Dv l i w≠0 then none else Fi l (i+1) r (acc+Du l i w)
def Fz (t:Tp) (ws:List Int):List Int:=(ws.drop t.first.toNat).take t.count.toNat
def Qq (a s:Int):Option Int:=((List.range 10).find? fun j=>decide (s=a*(3870720 / 2 ^ j))).map fun j=>(j:Int) - 1
def Fh (l:List Tp) (t:Tp) (ws:List Int):Option Int:=(Fi l t.first.toNat (Fz t ws) 0).bind (Qq t.actual)
def Q9 (l:List Tp) (i:Nat) (ws:List Int):Option Int:=(l[i]?).bind fun t=>Fh (Kl l i) t ws
theorem Kt {l:List Tp} {i:Nat} {t:Tp} (h:l[i]? =some t) (ws:List Int):Q9 l i ws=Fh (Kl l i) t ws:=by rw [Q9,h];rfl
theorem Uy {t:Tp} {ws:List Int} {j:Nat} (hj:j<t.count.toNat):(Fz t ws)[j]? =ws[t.first.toNat+j]? :=by
 rw [Fz,List.getElem?_take,if_pos hj,List.getElem?_drop]
theorem Tl {l:List Tp} {i k:Nat} {seg:List Int} {w acc:Int} (h:seg[k]? =some w) (hx:¬Dv l i w≠0):Fi l i (seg.drop k) acc=Fi l (i+1) (seg.drop (k+1)) (acc+Du l i w):=by rw [Ct h,Fi,if_neg hx]
theorem Tk {l:List Tp} {i k:Nat} {seg:List Int} {w acc:Int} (h:seg[k]? =some w) (hx:Dv l i w≠0):Fi l i (seg.drop k) acc=none:=by rw [Ct h,Fi,if_pos hx]
theorem Vq {l:List Tp} {i k:Nat} {seg:List Int} {acc:Int} (h:seg.length≤k):Fi l i (seg.drop k) acc=some acc:=by rw [List.drop_eq_nil_of_le h,Fi]
theorem Apu {p:Nat→Bool} {m k:Nat} (hk:k<m) (hp:p k=true) (h:∀j,j<k→p j=false):(List.range m).find? p=some k:=by
 rw [List.find?_range_eq_some]
 exact ⟨hp,List.mem_range.2 hk,fun j hj=>by simp [h j hj]⟩
theorem Aft {a s:Int} {k:Nat} (hk:k<10) (hp:s=a*(3870720 / 2 ^ k)) (h:∀j,j<k→¬s=a*(3870720 / 2 ^ j)):Qq a s=some ((k:Int) - 1):=by
 rw [Qq,Apu hk (decide_eq_true hp) (fun j hj=>decide_eq_false (h j hj))];rfl
theorem Ws {a s:Int} (h:∀j,j<10→¬s=a*(3870720 / 2 ^ j)):Qq a s=none:=by
 rw [Qq,List.find?_eq_none.2 (fun j hj=>by simp [h j (List.mem_range.1 hj)])];rfl
theorem L7 {l:List Tp} {t:Tp} {ws:List Int} {s:Int} (h:Fi l t.first.toNat (Fz t ws) 0=some s):Fh l t ws=Qq t.actual s:=by rw [Fh,h];rfl
theorem Tj {l:List Tp} {t:Tp} {ws:List Int} (h:Fi l t.first.toNat (Fz t ws) 0=none):Fh l t ws=none:=by rw [Fh,h];rfl
theorem Pm {o:Option Int} (h:o=none):D.tup [dI 0,dB false]= .tup [dI (o.getD 0),dB o.isSome]:=by rw [h];rfl
theorem Yx {o:Option Int} {x:Int} (h:o=some x):D.tup [dI x,dB true]= .tup [dI (o.getD 0),dB o.isSome]:=by rw [h];rfl
theorem Aqm (k:Nat):0≤(3870720:Int) / 2 ^ k∧(3870720:Int) / 2 ^ k≤3870720:=by
 have h:(0:Int)<2 ^ k:=Int.pow_pos (by omega)
 exact ⟨Int.ediv_nonneg (by omega) (by omega),Int.ediv_le_self _ (by omega)⟩
theorem Aoe (l:List Tp) (i:Nat) (t:Tp) (ws:List Int) (ht:l[i]? =some t) (hT:Tups l ws.length):XC Tryz.prog 164 [.sl 4 (l.map Tp.c), .v (.int .i64 i), .sl 1 (Bu ws)] (fun r=>r= .tup [dI ((Fh (Kl l i) t ws).getD 0),dB (Fh (Kl l i) t ws).isSome]):=by
 have hin:=hT.inR t (List.mem_of_getElem? ht)
 have hok:=hT.ok t (List.mem_of_getElem? ht)
 have hbd:=hT.bd
 have hlen:=hT.len
 have hil:=(List.getElem?_eq_some_iff.1 ht).1
 have hin2:=hin
 simp only [Tp.inR] at hin2
 have hte:t.e=t.first+t.count:=rfl
 obtain ⟨f,hf⟩:∃f:Nat,t.first=f:=⟨t.first.toNat,by omega⟩
 have hf2:t.first.toNat=f:=by omega
 have hsl:(Fz t ws).length=t.count.toNat:=by rw [Fz,List.length_take,List.length_drop];omega
 have hoks:∀x∈(l.take l.length).drop (i+1),x.ok:=Afo (U4 hT.ok _) _
 have hhs:∀e,hits ((l.take l.length).drop (i+1)) e≤3:=fun e=>Nat.le_trans (Wv _ _ e) (Nat.le_trans (Nx _ _ e) (hT.hits e))
 refine Ap Aaq Tryz.func164 R R lb<|zr<|za R R<|za R R<|znr<|zm R R<|zm R R<|zp (Aj R R R E6 (ht))<|zp (Ad (s':= .d (.agg (Tp.c t))) (Ar R R Co lb) (by kernel_rfl))<|XL.step R (A9 8 (l:= [.d (dI 0), .d (dI 0), .d (dI 0), .d (dI 0)]) R Ex (by kernel_rfl))<|?_
 refine XL.step R (Ai (l':= [.d (dI t.first), .d (dI t.count), .d (dI t.actual), .d (dI t.normal)]) R R R R Gw R lb (by kernel_rfl))<|znr<|za R R<|zn<|zs<|zr<|zp (Aa R R Df)<|zp (Ab R R Ah R R)<|za R R<|zn<|Ag<|?_
 refine Ax (α:=Nat × Int) (fun p=>p.1≤t.count.toNat∧Fi ((l.take l.length).drop (i+1)) (f+p.1) ((Fz t ws).drop p.1) p.2=Fi ((l.take l.length).drop (i+1)) f (Fz t ws) 0∧0≤p.2∧p.2≤(p.1:Int)*253671505920) (fun p=>mkF [(0, .d (.sl 4 (l.map Tp.c))),(1, .d (dI i)),(2, .d (.sl 1 (Bu ws))),(8, .ptr 8 0 0),(9, .d (dI p.2)),(10, .d (dI ((f+p.1:Nat):Int)))]) (fun p=>mkH [(8, .box ((Tp.c t).map S.d))]) (fun p=>t.count.toNat - p.1) ((0,0)) (⟨Nat.zero_le _,by rw [List.drop_zero];rfl,Int.le_refl _,by simp⟩) ?_ ?_ ?_
 exact fz ⟨sr,sr,sr,sr,sr, .same (sI (by rw [hf];rfl)),trivial⟩
 exact gz ⟨R,trivial⟩
 intro p hk0
 obtain ⟨hk,hgo,hs0,hs1⟩:=hk0
 refine zs<|zr<|zm R R<|zp (Ad (s':= .d (.agg (Tp.c t))) (Ae (Ac R R Co R lb)) (by kernel_rfl))<|XL.call1 R R (Hz _ (by assumption)) R<|zp (At R R R)<|zn<|?_
 refine zd R (fun c23=> ?_) (fun c23=> ?_)
 have hkc:p.1<t.count.toNat:=by omega
 obtain ⟨w,hw⟩:∃w,ws[f+p.1]? =some w:=As (by omega)
 have hsw:(Fz t ws)[p.1]? =some w:=by rw [Uy hkc,hf2];exact hw
 have hh:=hhs ((f+p.1:Nat):Int)
 have hsb:=Sk (n:=((f+p.1:Nat):Int)) (w:=w) hoks hh
 refine zi<|zs<|Ag<|zs<|A8 [] (by kernel_rfl) (by kernel_rfl) (by kernel_rfl) (by decide)<|ym R R<|ym R R<|yp (Ak R R R (by omega) (by omega))<|yp (F8 R R E6 (Bd.ati (a:=i+1) R (by omega)) Bd.no (by omega) (by omega))<|ym R R<|ym R R<|ym R R<|yp (Aj R R R C5 (hw))<|yp (Aw R R Ah)<|?_
 refine ChK.cons R (CStep.call R (Yd _ _ _ (by assumption) (by assumption) (by omega) (by omega)) R)<|ym R R<|yp (Bh R R R)<|yp (Bh R R R)<|ya R R<|ya R R<|?_
 refine ChK.nil ⟨by kernel_rfl, ?_⟩
 refine zs<|zr<|zm R R<|zp (Bc R R R)<|zn<|?_
 refine zd R (fun c40=> ?_) (fun c40=> ?_)
 refine zr<|za R R<|za R R<|zn<|zt<|?_
 exact Bs R (RV.tmp R R) (RV.tmp R R) (Pm (Tj (by rw [hf2, ←hgo];exact Tk hsw c40)))
 refine zi<|Af (by kernel_rfl)<|zm R R<|zm R R<|zp (Ak R R R (by omega) (by omega))<|za R R<|zn<|Af (by kernel_rfl)<|zm R R<|zp (Ak R R R (by omega) (by omega))<|za R R<|zn<|?_
 exact Al ((p.1+1,p.2+Du ((l.take l.length).drop (i+1)) ((f+p.1:Nat):Int) w)) (⟨by simp only;omega,(Tl hsw c40).symm.trans hgo,by simp only;omega,by simp only;omega⟩) (by simp only;omega) (fz ⟨sr,sr,sr,sr,sr,sr,trivial⟩) (gz ⟨rfl,trivial⟩)
 have hu:Fi ((l.take l.length).drop (i+1)) t.first.toNat (Fz t ws) 0=some p.2:=by rw [hf2, ←hgo];exact Vq (by omega)
 refine An<|zs<|zr<|za R R<|zn<|Ag<|?_
 refine Ax (α:=Nat) (fun k=>k≤10∧∀j,j<k→¬p.2=t.actual*(3870720 / 2 ^ j)) (fun k=>mkF [(8, .ptr 8 0 0),(9, .d (dI p.2)),(13, .d (dI ((k:Int) - 1)))]) (fun k=>mkH [(8, .box ((Tp.c t).map S.d))]) (fun k=>10 - k) (0) (⟨Nat.zero_le _,fun j hj=>absurd hj (Nat.not_lt_zero _)⟩) ?_ ?_ ?_
 exact fz ⟨sr,sr,sr,trivial⟩
 exact gz ⟨R,trivial⟩
 intro k hk2
 obtain ⟨hk,hno⟩:=hk2
 have hkk:((k:Int) - 1+1).toNat=k:=by omega
 have hsh:=Aqm k
 refine zs<|zr<|zm R R<|zp (Fk R R R)<|zn<|?_
 refine zd R (fun c45=> ?_) (fun c45=> ?_)
 have hml1:0≤t.actual*(3870720 / 2 ^ k):=Int.mul_nonneg (by omega) hsh.1
 have hml2:t.actual*(3870720 / 2 ^ k)≤32*3870720:=Int.mul_le_mul (by omega) hsh.2 hsh.1 (by omega)
 refine zi<|zs<|Ag<|zs<|A8 [] (by kernel_rfl) (by kernel_rfl) (by kernel_rfl) (by decide)<|ym R R<|yp (Aa R R Ls)<|yp (Ab R R Ah R R)<|ym R R<|yp (Ak R R R (by omega) (by omega))<|yp (Xr R R R (by omega) (by omega))<|yp (G4 R R R (by rw [hkk];omega) (by rw [hkk];omega))<|yp (Az R R R)<|?_
 refine ChK.nil ⟨by kernel_rfl, ?_⟩
 refine zd R (fun c55=> ?_) (fun c55=> ?_)
 refine zr<|zm R R<|za R R<|za R R<|zn<|zt<|?_
 exact Bs R (RV.tmp R R) (RV.tmp R R) (Yx (by rw [L7 hu];exact Aft (by omega) (by rw [hkk] at c55;exact c55) hno))
 refine zi<|Af (by kernel_rfl)<|zm R R<|zp (Ak R R R (by omega) (by omega))<|za R R<|zn<|?_
 exact Al (k+1) (⟨by omega,fun j hj=>by by_cases e:j=k;(· subst e;rw [hkk] at c55;exact c55);(· exact hno j (by omega))⟩) (by omega) (fz ⟨sr,sr, .same (sI (by omega)),trivial⟩) (gz ⟨rfl,trivial⟩)
 have hke:k=10:=by omega
 have hnone:Qq t.actual p.2=none:=Ws (fun j hj=>hno j (by omega))
 refine An<|zr<|za R R<|za R R<|zn<|zt<|?_
 exact Bs R (RV.tmp R R) (RV.tmp R R) (Pm (by rw [L7 hu];exact hnone))
theorem Kc {l:List Tp} {ws:List Int} (h:¬C2 l ws≠0):Tups l ws.length:=by
 unfold C2 at h
 split at h
 ·rename_i h2;exact absurd h2 h
 ·rename_i h2;exact Ra h2
def Kb (l:List Tp) (ws:List Int):Prop:=∀j,j<l.length→(Q9 l j ws).isSome=true
instance (l:List Tp) (ws:List Int):Decidable (Kb l ws):=by unfold Kb;exact inferInstance
def Fy (l:List Tp) (ws:List Int):Int:=if C2 l ws≠0 then C2 l ws else if Kb l ws then 0 else 21
def Ng (l:List Tp) (ws:List Int) (k:Nat):List Int:=(List.range k).map fun j=>(Q9 l j ws).getD 0
def Ms (l:List Tp) (ws:List Int):List Int:=if Fy l ws=0 then Ng l ws l.length else []
theorem Agj {l:List Tp} {ws:List Int} {k:Nat} {t:Tp} (h:l[k]? =some t):Ng l ws (k+1)=Ng l ws k++ [(Fh (Kl l k) t ws).getD 0]:=by
 rw [Ng,List.range_succ,List.map_append,List.map_singleton,Kt h];rfl
theorem Ain (l:List Tp) (ws:List Int) (k:Nat):(Ng l ws k).length=k:=by rw [Ng,List.length_map,List.length_range]
theorem Aqd {l:List Tp} {ws:List Int} (h:C2 l ws≠0): []=Ms l ws∧C2 l ws=Fy l ws:=by
 have e:Fy l ws=C2 l ws:=by rw [Fy,if_pos h]
 exact ⟨by rw [Ms,e,if_neg h],e.symm⟩
theorem Alc {l:List Tp} {ws:List Int} (h:¬C2 l ws≠0) {k:Nat} {t:Tp} (ht:l[k]? =some t) (hn:(!(Fh (Kl l k) t ws).isSome)=true): []=Ms l ws∧21=Fy l ws:=by
 have e:Fy l ws=21:=by
  rw [Fy,if_neg h,if_neg fun ha=> ?_]
  have:=ha k (List.getElem?_eq_some_iff.1 ht).1
  rw [Kt ht] at this
  rw [this] at hn
  cases hn
 exact ⟨by rw [Ms,e,if_neg (by decide)],e.symm⟩
theorem Alb {l:List Tp} {ws:List Int} (h:¬C2 l ws≠0) (ha:Kb l ws):Ng l ws l.length=Ms l ws∧0=Fy l ws:=by
 have e:Fy l ws=0:=by rw [Fy,if_neg h,if_pos ha]
 exact ⟨by rw [Ms,e,if_pos rfl],e.symm⟩
theorem Ak9 (l:List Tp) (ws:List Int):XC Tryz.prog 134 [.sl 4 (l.map Tp.c), .sl 1 (Bu ws)] (fun r=>r= .tup [.sl 1 (Bu (Ms l ws)),dI (Fy l ws)]):=by
 refine Ap Abh Tryz.func134 R R lb<|zr<|za R R<|za R R<|zn<|zs<|zr<|zm R R<|zm R R<|XL.call1 R R (Ru _ _) R<|zm R R<|zp (Bh R R R)<|zp (Bh R R R)<|za R R<|?_
 refine za R R<|znr<|zm R R<|zp (Bc R R R)<|zn<|?_
 refine zd R (fun c19=> ?_) (fun c19=> ?_)
 refine zr<|zm R R<|za R R<|za R R<|zn<|zt<|?_
 exact Bs R (RV.nil (sz:=1) R R) (RV.tmp R R) (r2 (rSl (Aqd c19).1) (rI (Aqd c19).2))
 refine zi<|zs<|?_
 have hT:=Kc c19
 have hbd:=hT.bd
 have hlen:=hT.len
 refine Af (by kernel_rfl)<|zm R R<|XL.len R R R Tryz.underlying23 fun hl22=>XL.step R (Oi 23 (m:=0) (z:=(.int .i64 0)) (zs:= [dI 0]) (sz:=1) (bytes:=8) R R R Tryz.underlying64 (by kernel_rfl) (by kernel_rfl) (by kernel_rfl) (by decide) (by decide) (by omega) (by unfold maxLen;omega) (by omega))<|zp (Aq R (by conv=>lhs;whnf))<|?_
 refine zn<|zs<|zr<|zm R R<|XL.len R R R Tryz.underlying23 fun hl25=>zm R R<|zn<|Ag<|?_
 refine Ax (α:=Nat) (fun k=>k≤l.length∧∀j,j<k→(Q9 l j ws).isSome=true) (fun k=>mkF [(0, .d (.sl 4 (l.map Tp.c))),(1, .d (.sl 1 (Bu ws))),(8, .own 23),(25, .d (dI l.length)),(26, .d (dI k))]) (fun k=>mkH [(23, .row 3 1 ((Ng l ws k).map iv))]) (fun k=>l.length - k) (0) (⟨Nat.zero_le _,fun j hj=>absurd hj (Nat.not_lt_zero _)⟩) ?_ ?_ ?_
 exact fz ⟨sr,sr,sr,sr,sr,trivial⟩
 exact gz ⟨R,trivial⟩
 intro k hk0
 obtain ⟨hk,hall⟩:=hk0
 refine zr<|zp (At R R R)<|zn<|zs<|?_
 refine zd R (fun c27=> ?_) (fun c27=> ?_)
 have hk0a:k<l.length:=by omega
 obtain ⟨x0,hx0⟩:=As hk0a
 have hll:=Ain l ws k
 refine zi<|zs<|Ag<|zr<|zm R R<|za R R<|znr<|zm R R<|zm R R<|zm R R<|XL.call1 R R (Aoe _ _ _ _ hx0 hT) R<|zm R R<|zp (Bh R R R)<|zp (Bh R R R)<|?_
 refine za R R<|za R R<|zn<|zs<|zr<|zm R R<|zp (Cr R R)<|zn<|?_
 refine Dw (by kernel_rfl) R (fun c37=> ?_) (fun c37=> ?_)
 refine zr<|za R R<|za R R<|zn<|zt<|?_
 exact Bs R (RV.nil (sz:=1) R R) (RV.tmp R R) (r2 (rSl (Alc c19 hx0 c37).1) (rI (Alc c19 hx0 c37).2))
 refine zi<|Af (by kernel_rfl)<|zp (Au R (by conv=>lhs;whnf))<|?_
 refine zm R R<|XL.step R (Bi 40 R Tryz.underlying64 C0 Eu R R (by omega) (by omega))<|XL.step R (A4 R G0 (.own R) (Src.own R) (by unfold maxLen;simp;omega) (by simp;omega))<|zp (Aq R (by conv=>lhs;whnf))<|?_
 refine zn<|Af (by kernel_rfl)<|zp (Ak R R R (by omega) (by omega))<|zm R R<|zn<|?_
 exact Al (k+1) (⟨by omega,fun j hj=>by by_cases e:j=k;(· subst e;rw [Kt hx0];exact (by simpa using c37));(· exact hall j (by omega))⟩) (by omega) (fz ⟨sr,sr,sr,sr,sr,trivial⟩) (gz ⟨E7 rfl (Agj hx0),trivial⟩)
 have hk0b:k=l.length:=by omega
 have ha:Kb l ws:=fun j hj=>hall j (by omega)
 refine An<|zr<|zp (Au R (by conv=>lhs;whnf))<|?_
 refine zp (Aq R (by conv=>lhs;whnf))<|?_
 refine za R R<|zn<|zt<|Bj (i:=23) R<|?_
 exact Bs R (RV.tmp R R) (RV.tmp R R) (r2 (rSl (by rw [hk0b];exact (Alb c19 ha).1)) (rI (Alb c19 ha).2))
def H4 (l:List Tp) (n:Int):Int:=if Eb l 128≠0 then 0 else (hits l n:Int)
theorem S7 {l:List Tp} {k:Nat} {t:Tp} {n:Int} (h:l[k]? =some t) (ht:t.has n):hits (l.take (k+1)) n=hits (l.take k) n+1:=by rw [Bb h,H9,if_pos ht]
theorem Vc {l:List Tp} {k:Nat} {t:Tp} {n:Int} (h:l[k]? =some t) (ht:¬t.has n):hits (l.take (k+1)) n=hits (l.take k) n:=by rw [Bb h,H9,if_neg ht];rfl
theorem Zw (l:List Tp) (n:Int) (h0:0≤n) (h1:n≤128):XC Tryz.prog 94 [.sl 4 (l.map Tp.c), .v (.int .i64 n)] (fun r=>r=dI (H4 l n)):=by
 refine Ap Adg Tryz.func94 R R lb<|zr<|za R R<|zn<|zs<|zr<|zm R R<|XL.call1 R R (Vt _ _) R<|zp (Bc R R R)<|zn<|?_
 refine zd R (fun c10=> ?_) (fun c10=> ?_)
 exact zr<|za R R<|zn<|zt<|z1 R R (rI (by rw [H4,if_pos c10]))
 refine zi<|zs<|?_
 have hT:=Ra c10
 refine Af (by kernel_rfl)<|za R R<|zn<|zs<|zr<|zm R R<|XL.len R R R Tryz.underlying23 fun hl12=>zm R R<|zn<|Ag<|?_
 refine Ax (α:=Nat) (fun k=>k≤l.length) (fun k=>mkF [(1, .d (dI n)),(4, .d (dI 0)),(5, .d (dI (hits (l.take k) n:Int))),(11, .d (.sl 4 (l.map Tp.c))),(12, .d (dI l.length)),(13, .d (dI k))]) (fun k=>mkH []) (fun k=>l.length - k) (0) (Nat.zero_le _) ?_ ?_ ?_
 exact fz ⟨sr,sr,sr,sr,sr,sr,trivial⟩
 exact HSub.nil
 intro k hk0
 refine zr<|zp (At R R R)<|zn<|zs<|?_
 refine zd R (fun c14=> ?_) (fun c14=> ?_)
 have hk0a:k<l.length:=by omega
 obtain ⟨x0,hx0⟩:=As hk0a
 have hok:=hT.ok x0 (List.mem_of_getElem? hx0)
 have hle:=Nat.le_trans (Nx l k n) (hT.hits n)
 refine zi<|zs<|Ag<|zr<|zp (Aj R R R E6 hx0)<|zp (Ad (s':= .d (.agg (Tp.c x0))) (Ar R R Co lb) (by kernel_rfl))<|XL.step R (A9 7 (l:= [.d (dI 0), .d (dI 0), .d (dI 0), .d (dI 0)]) R Ex (by kernel_rfl))<|XL.step R (Ai (l':= [.d (dI x0.first), .d (dI x0.count), .d (dI x0.actual), .d (dI x0.normal)]) R R R R Gw R lb (by kernel_rfl))<|znr<|?_
 refine zp (Ad (s':= .d (.agg (Tp.c x0))) (Ae (Ac R R Co R lb)) (by kernel_rfl))<|zm R R<|XL.call1 R R (R7 _ _ (by assumption) (by omega) (by omega)) R<|zn<|?_
 refine zd R (fun c19=> ?_) (fun c19=> ?_)
 refine Af (by kernel_rfl)<|zm R R<|zp (Ak R R R (by omega) (by omega))<|za R R<|zn<|Af (by kernel_rfl)<|zp (Ak R R R (by omega) (by omega))<|zm R R<|zn<|?_
 exact Al (k+1) (by omega) (by omega) (fz ⟨sr,sr, .same (sI (by rw [S7 hx0 c19];rfl)),sr,sr,sr,trivial⟩) (HSub.nil)
 refine zi<|Af (by kernel_rfl)<|zp (Ak R R R (by omega) (by omega))<|zm R R<|zn<|?_
 exact Al (k+1) (by omega) (by omega) (fz ⟨sr,sr, .same (sI (by rw [Vc hx0 c19])),sr,sr,sr,trivial⟩) (HSub.nil)
 have hk0b:k=l.length:=by omega
 have ht:l.take k=l:=by rw [hk0b,List.take_length]
 exact An<|zr<|zm R R<|za R R<|zn<|zt<|z1 R R (rI (by rw [H4,if_neg c10,ht]))
end Go.Proofs.YtcihalbakenleaaGreat
namespace Go.Proofs.YtcihalbakenleaaGreat
open Go.RowKit
def Uo (ops:Array Oper) (j i:Nat):Bool:=match ops[j]? with
 |some o=>o.after.toList.any fun e=>Region.binds .any e && Nat.beq e.on i
 |none=>false
def Aie (ops:Array Oper):Bool:=(List.range ops.size).all fun j=>match ops[j]? with
 |some o=>o.after.toList.all fun e=> !Region.binds .any e||Nat.blt e.on j
 |none=>true
def Si (ops:Array Oper) (p:Nat):Bool:=
 Aie ops && ((List.range p).all fun k=>(List.range (p+1)).any fun k'=>Nat.blt k k' && Uo ops k' k) && ((List.range ops.size).all fun j=> !Nat.blt p j||Uo ops j (j - 1))
theorem Pz {ops:Array Oper} {j i:Nat} (h:Uo ops j i=true):∃o e,ops[j]? =some o∧e∈o.after∧Region.binds .any e=true∧e.on=i:=by
 unfold Uo at h
 cases ho:ops[j]? with
 |none=>rw [ho] at h;cases h
 |some o=>
  rw [ho] at h
  simp only [List.any_eq_true,Bool.and_eq_true] at h
  obtain ⟨e,he,hb,h2⟩:=h
  exact ⟨o,e,rfl,by simpa using he,hb,Nat.eq_of_beq_eq_true h2⟩
theorem Uq {ops:Array Oper} (h:Aie ops=true) {j:Nat} {o:Oper} (ho:ops[j]? =some o) {e:Edge} (he:e∈o.after) (hb:Region.binds .any e=true):e.on<j:=by
 unfold Aie at h
 have hj:j<ops.size:=(Array.getElem?_eq_some_iff.1 ho).1
 have h1:=List.all_eq_true.1 h j (List.mem_range.2 hj)
 rw [ho] at h1
 have h2:=List.all_eq_true.1 h1 e (by simpa using he)
 rw [hb] at h2
 exact Gm (by simpa using h2)
theorem P4 {P:Program} {ops:Array Oper} {Q:Exit→Act→World→Prop} {id:Nat} {a:Act} {w:World} {I:Array Bool→Act→World→Prop} (p:Nat) (suf:List Oper) (hm:P.follows .mixedOrders=true)
  (hops:∀j,suf[j]? =ops[p+j]?) (hsz:ops.size=p+suf.length) (hne:0<suf.length) (hS:Si ops p=true) (h0:I (Array.replicate ops.size false) a w.drew)
  (hinv:∀listed a w,I listed a w→listed.size=ops.size∧(∀j o e,ops[j]? =some o→listed.getD j false=true→e∈o.after→Region.binds .any e=true→listed.getD e.on false=true)∧∀k,p≤k→listed.getD k false=false)
  (hstep:∀listed a w,I listed a w→∀i∈Region.ready .any ops listed,i<p→wpOp P ops Q i (fun a' w'=>I (listed.setIfInBounds i true) a' w') a w)
  (hdone:∀listed a w,I listed a w→(∀k,k<p→listed.getD k false=true)→wpList P ops Q suf a w):(Code.region id ops true).wp P Q a w:=by
 unfold Si at hS
 rw [Bool.and_eq_true,Bool.and_eq_true] at hS
 obtain ⟨⟨hback,hpre⟩,hchain⟩:=hS
 have hch:∀j,p<j→j<ops.size→Uo ops j (j - 1)=true:=by
  intro j h1 h2
  have h3:=List.all_eq_true.1 hchain j (List.mem_range.2 h2)
  have h4:Nat.blt p j=true:=by rw [Nat.blt_eq];exact h1
  rw [h4] at h3
  simpa using h3
 have hall:∀listed a w,I listed a w→p∈Region.ready .any ops listed→∀k,k<p→listed.getD k false=true:=by
  intro listed a w hI hp k hk
  obtain ⟨_,hdown,_⟩:=hinv _ _ _ hI
  obtain ⟨_,_,o,ho,hdeps⟩:=Gt hp
  have key:∀d k,k<p→p - k≤d→listed.getD k false=true:=by
   intro d
   induction d with
   |zero=>intro k h1 h2;omega
   |succ d ih=>
    intro k h1 h2
    have h3:=List.all_eq_true.1 hpre k (List.mem_range.2 h1)
    simp only [List.any_eq_true,Bool.and_eq_true,List.mem_range] at h3
    obtain ⟨k',h4,h5,h6⟩:=h3
    have h5:=Gm h5
    obtain ⟨o',e,g1,g2,g3,g4⟩:=Pz h6
    by_cases e':k'=p
    ·subst e'
     rw [ho] at g1;cases g1
     rw [←g4];exact hdeps e g2 g3
    ·rw [←g4]
     exact hdown k' o' e g1 (ih k' (by omega) (by omega)) g2 g3
  exact key (p - k) k hk (Nat.le_refl _)
 let J:Array Bool→Act→World→Prop:=fun listed a w=>I listed a w∨∃m,m≤suf.length∧listed.size=ops.size∧(∀k,k<ops.size→(listed.getD k false=true↔k<p+m))∧wpList P ops Q (suf.drop m) a w
 have hone:∀(listed:Array Bool) (a:Act) (w:World) (m:Nat),m<suf.length→listed.size=ops.size→(∀k,k<ops.size→(listed.getD k false=true↔k<p+m))→wpList P ops Q (suf.drop m) a w→
   wpOp P ops Q (p+m) (fun a' w'=>J (listed.setIfInBounds (p+m) true) a' w') a w:=by
  intro listed a w m hm' hl hk hw
  have ho:suf[m]? =some suf[m]:=List.getElem?_eq_getElem hm'
  have hd:suf.drop m=suf[m]::suf.drop (m+1):=List.drop_eq_getElem_cons hm'
  rw [hd] at hw
  unfold wpOp
  rw [←hops m,ho]
  simp only
  unfold wpList at hw
  have hJ:∀a' w',wpList P ops Q (suf.drop (m+1)) a' w'→J (listed.setIfInBounds (p+m) true) a' w':=by
   intro a' w' h
   refine .inr ⟨m+1,hm',by simpa using hl,fun k hk'=> ?_,h⟩
   by_cases e:k=p+m
   ·subst e
    simp [Array.getD_eq_getD_getElem?,show p+m<listed.size by omega]
   ·rw [show (listed.setIfInBounds (p+m) true).getD k false=listed.getD k false from by simp [Array.getD_eq_getD_getElem?,Array.getElem?_setIfInBounds_ne (fun h=>e h.symm)]]
    rw [hk k hk']
    omega
  split at hw
  ·rename_i hwant
   rw [if_pos hwant]
   rcases hw with h|h
   ·exact .inl (Oper.wp_mono hJ h)
   ·exact .inr h
  ·rename_i hwant
   rw [if_neg hwant]
   exact hJ _ _ hw
 refine P5 (I:=J) hm (.inl h0) ?_ ?_
 ·rintro listed a w (hI|⟨m,hm',hl,hk,hw⟩) i hi
  ·obtain ⟨hl,hdown,hun⟩:=hinv _ _ _ hI
   obtain ⟨h1,h2,o,ho,hdeps⟩:=Gt hi
   by_cases hip:i<p
   ·exact wpOp_mono (fun _ _ h=> .inl h) (hstep _ _ _ hI i hi hip)
   ·by_cases e:i=p
    ·subst e
     have ha:=hall _ _ _ hI hi
     have := hone listed a w 0 hne hl (fun k hk => by
      by_cases hkp:k<i
      ·simp [ha k hkp,hkp]
      ·simp [hun k (by omega), hkp]) (by rw [List.drop_zero]; exact hdone _ _ _ hI ha)
     rwa [Nat.add_zero] at this
    ·exfalso
     obtain ⟨o',e',g1,g2,g3,g4⟩:=Pz (hch i (by omega) h1)
     rw [ho] at g1;cases g1
     have:=hdeps e' g2 g3
     rw [g4,hun (i - 1) (by omega)] at this
     cases this
  ·obtain ⟨h1,h2,o,ho,hdeps⟩:=Gt hi
   have h2':listed.getD i false=false:=by rw [←Jc true (by omega)];exact h2
   have hge:¬i<p+m:=fun h=>by have:=(hk i h1).2 h;rw [h2'] at this;cases this
   have hi':i=p+m:=by
    by_cases e:i=p+m
    ·exact e
    ·exfalso
     obtain ⟨o',e',g1,g2,g3,g4⟩:=Pz (hch i (by omega) h1)
     rw [ho] at g1;cases g1
     have:=hdeps e' g2 g3
     rw [g4] at this
     have:=(hk (i - 1) (by omega)).1 this
     omega
   subst hi'
   exact hone listed a w m (by omega) hl hk hw
 ·rintro listed a w (hI|⟨m,hm',hl,hk,hw⟩) hr
  ·exfalso
   obtain ⟨hl,hdown,hun⟩:=hinv _ _ _ hI
   have key:∀k,k≤p→listed.getD k false=true:=by
    intro k
    induction k using Nat.strongRecOn with
    |_ k ih=>
     intro hkp
     cases hlk:listed.getD k false with
     |true=>rfl
     |false=>
      exfalso
      have hks:k<ops.size:=by omega
      have ho:ops[k]? =some ops[k]:=Array.getElem?_eq_getElem hks
      have : k ∈ Region.ready .any ops listed := mem_ready.2 ⟨by rw [Jc true (by omega)]; exact hlk, ops[k], ho, fun e he hb => by
       have hlt:=Uq hback ho he hb
       exact ih e.on hlt (by omega)⟩
      rw [hr] at this;cases this
   have:=key p (Nat.le_refl _)
   rw [hun p (Nat.le_refl _)] at this
   cases this
  ·by_cases e:m=suf.length
   ·subst e
    rw [List.drop_length] at hw
    exact hw
   ·exfalso
    have hks:p+m<ops.size:=by omega
    have ho:ops[p+m]? =some ops[p+m]:=Array.getElem?_eq_getElem hks
    have hun:listed.getD (p+m) false=false:=by
     cases h:listed.getD (p+m) false with
     |false=>rfl
     |true=>have:=(hk _ hks).1 h;omega
    have : p + m ∈ Region.ready .any ops listed := mem_ready.2 ⟨by rw [Jc true (by omega)]; exact hun, ops[p + m], ho, fun e he hb => by
     have hlt:=Uq hback ho he hb
     exact (hk e.on (by omega)).2 hlt⟩
    rw [hr] at this;cases this
theorem Ak3 {P:Program} {n id:Nat} {pre suf:List Oper} {ops:Array Oper} {K:D3} {f f':Fr} {h h':Xh} {L:List (List Nat × S)} (sites:List Nat) (hopsE:ops=(pre++suf).toArray) (hne:0<suf.length) (hm:P.follows .mixedOrders=true) (hin:pre.all (inN n)=true) (hin2:suf.all (inN n)=true)
  (hreg:Lx ops pre=true) (hS:Si ops pre.length=true)
  (hc:Ch P n ops pre (Fc f sites) (Fl h sites) L f' h') (hids:L.flatMap (·.1)=sites) (hnd:sites.Nodup) (hk:XL P n ops suf K f' h'):XW P n (.region id ops true) K f h:=by
 have hops:∀j,j<pre.length→ops[j]? =pre[j]? :=fun j hj=>by rw [hopsE];simp [List.getElem?_append_left hj]
 have hops2:∀j,suf[j]? =ops[pre.length+j]? :=fun j=>by rw [hopsE,List.getElem?_toArray,List.getElem?_append_right (by omega),Nat.add_sub_cancel_left]
 have hsize:ops.size=pre.length+suf.length:=by rw [hopsE];simp
 intro E H β a w hs hf
 obtain ⟨hs1,hf1⟩:=M7 sites β f h hs hf
 obtain ⟨hok,hfin⟩:=hc.ok
 obtain ⟨hle,hnew⟩:=hc.heap
 have hlen:=hc.len
 generalize hf0:Fc f sites=f0 at*
 have huniq:∀(k k':Nat) (ids ids':List Nat) (s s':S) (i:Nat),L[k]? =some (ids,s)→L[k']? =some (ids',s')→i∈ids→i∈ids'→k=k':=by
  rw [←hids] at hnd
  clear hids hnew hc hok hfin hlen
  induction L with
  |nil=>intro k k' ids ids' s s' i h1;simp at h1
  |cons q L ih=>
   rw [List.flatMap_cons,List.nodup_append] at hnd
   intro k k' ids ids' s s' i h1 h2 h3 h4
   cases k with
   |zero=>
    cases k' with
    |zero=>rfl
    |succ k'=>
     simp at h1 h2
     subst h1
     exact absurd rfl (hnd.2.2 i h3 i (List.mem_flatMap.2 ⟨_,List.mem_of_getElem? h2,h4⟩))
   |succ k=>
    cases k' with
    |zero=>
     simp at h1 h2
     subst h2
     exact absurd rfl (hnd.2.2 i h4 i (List.mem_flatMap.2 ⟨_,List.mem_of_getElem? h1,h3⟩))
    |succ k'=>exact congrArg (· +1) (ih hnd.2.1 k k' ids ids' s s' i (by simpa using h1) (by simpa using h2) h3 h4)
 have hs2:Sim E H (Gg β sites) h' w:=by
  have emp:∀i x L0,h' i=some x→Gg β sites i=some L0→Fl h sites i=some x:=fun i x L0 e1 e2=>by
   rcases hnew i x e1 with e|e
   ·exact e
   ·rw [hids] at e
    rw [Gs sites β i e.1] at e2;cases e2
  exact ⟨hs1.below, hs1.ext, hs1.new, hs1.imm, fun i x L0 e1 e2 => hs1.obj i x L0 (emp i x L0 e1 e2) e2, fun i x L0 e1 e2 => hs1.sep i x L0 (emp i x L0 e1 e2) e2,
   fun i j x x' L1 L2 b hij e1 e1' e2 e2'=>hs1.inj i j x x' L1 L2 b hij (emp i x L1 e1 e2) (emp j x' L2 e1' e2') e2 e2',
   fun i x e1 hg=>by
    rcases hnew i x e1 with e|e
    ·exact hs1.dom i x e hg
    ·rw [e.2] at hg; cases hg⟩
 refine P4 (I := fun listed a w => (listed.size = ops.size ∧ (∀ j o e, ops[j]? = some o → listed.getD j false = true → e ∈ o.after → Region.binds .any e = true → listed.getD e.on false = true) ∧ ∀ k, pre.length ≤ k → listed.getD k false = false) ∧
   ∃ H β, Sim E H β h' w ∧ FV n H β a (Bq f0 pre L (fun j => listed.getD j false) pre.length) ∧ ∀ (k : Nat) (ids : List Nat) (s : S), L[k]? = some (ids, s) → listed.getD k false = false → ∀ i ∈ ids, β i = none) pre.length suf hm hops2 hsize hne hS ?_ (fun _ _ _ h => h.1) ?_ ?_
 ·have hrep:∀j,(Array.replicate ops.size false).getD j false=false:=fun j=>by rw [Array.getD_eq_getD_getElem?,Array.getElem?_replicate];split<;>rfl
  refine ⟨⟨by simp,fun j o e _ hj=> ?_,fun k _=>hrep k⟩,H,Gg β sites,hs2.drew, ?_,fun k ids s hk _ i hi=>Gs sites β i (by rw [←hids];exact List.mem_flatMap.2 ⟨_,List.mem_of_getElem? hk,hi⟩)⟩
  ·have:(Array.replicate ops.size false).getD j false=false:=by
    rw [Array.getD_eq_getD_getElem?,Array.getElem?_replicate];split<;>rfl
   rw [this] at hj;cases hj
  ·have e0:∀k,Bq f0 pre L (fun j=>(Array.replicate ops.size false).getD j false) k=f0:=by
    intro k
    induction k with
    |zero=>rfl
    |succ k ih=>
     have hz:(Array.replicate ops.size false).getD k false=false:=by
      rw [Array.getD_eq_getD_getElem?,Array.getElem?_replicate];split<;>rfl
     unfold Bq
     cases pre[k]? with
     |none=>exact ih
     |some o=>
      cases L[k]? with
      |none=>exact ih
      |some q=>simp only [hz,cond_false];exact ih
   rw [e0]
   exact hf1
 ·rintro listed a w ⟨⟨hsz,hdown,hunp⟩,H,β,hsim,hfv,hun⟩ i hi hip
  obtain ⟨hil,hunl,o,ho,hdeps⟩:=Gt hi
  have hil':i<pre.length:=hip
  have hol:pre[i]? =some o:=by rw [←hops i hip];exact ho
  obtain ⟨⟨ids,s⟩,hLi⟩:∃q,L[i]? =some q:=⟨_,List.getElem?_eq_getElem (by omega)⟩
  have hunl':listed.getD i false=false:=by rw [←Jc true (by omega)];exact hunl
  have hdown':∀j o e,ops[j]? =some o→(fun j=>listed.getD j false) j=true→e∈o.after→Region.binds .any e=true→(fun j=>listed.getD j false) e.on=true:=fun j o e h1 h2 h3 h4=>hdown j o e (by simpa using h1) h2 h3 h4
  have hwl:∀j,Ib ops 3 i j=true→listed.getD j false=true:=by
   intro j hw
   unfold Ib at hw
   rw [ho] at hw
   simp only [List.any_eq_true,Bool.and_eq_true,Bool.or_eq_true] at hw
   obtain ⟨e,he,hb,h2⟩:=hw
   have hl:=hdeps e (by simpa using he) hb
   rcases h2 with h2|h2
   ·rw [←Nat.eq_of_beq_eq_true h2];exact hl
   ·exact Fg hdown' 2 e.on j h2 hl
  have hlo:∀t,t∈C3 ops o→∀j o',j<i→pre[j]? =some o'→o'.dst=some t→listed.getD j false=true:=by
   intro t ht j o' hj hj' hd
   exact hwl j (Ke hreg hj hj' hol (by unfold N5;rw [hd];simp [J7 ht]))
  have hhi:∀t,t∈C3 ops o→∀j o',i<j→pre[j]? =some o'→o'.dst=some t→listed.getD j false=false:=by
   intro t ht j o' hj hj' hd
   cases hlj:listed.getD j false with
   |false=>rfl
   |true=>
    have hw:=Ke hreg hj hol hj' (by unfold N5;rw [hd];simp [J7 ht])
    have:=Fg hdown' 3 j i hw hlj
    rw [hunl'] at this;cases this
  have hcur:∀t,t∈C3 ops o→Bq f0 pre L (fun j=>listed.getD j false) pre.length t=Bq f0 pre L Fp i t:=by
   intro t ht
   have h1:∀j o',i≤j→pre[j]? =some o'→o'.dst=some t→(fun j=>listed.getD j false) j=false:=by
    intro j o' hj hj' hd
    by_cases e:j=i
    ·subst e;exact hunl'
    ·exact hhi t ht j o' (by omega) hj' hd
   rw [Jf h1 pre.length (by omega),N4 (hlo t ht) i (Nat.le_refl _)]
  have hin':inN n o=true:=List.all_eq_true.1 hin o (List.mem_of_getElem? hol)
  have hoin:=hin'
  unfold inN at hoin
  rw [Bool.and_eq_true] at hoin
  have hop:∀x∈o.op.operands,VS H β (a.eval x) (ev (Bq f0 pre L Fp i) x):=by
   intro x hx
   have h1:=hfv.operands hin' x hx
   cases x with
   |tmp t=>
    have ht:t∈C3 ops o:=by
     unfold C3 Oper.looksAt
     simp only [List.mem_append,List.mem_filterMap]
     exact .inr (.inl ⟨.tmp t,by simpa using hx,rfl⟩)
    have:=hcur t ht
    simp only [ev] at h1 ⊢
    rw [←this]
    exact h1
   |_=>exact h1
  have hguard:∀b,Cd ops (Bq f0 pre L Fp i) n o.guard=some b→Region.wanted o (yielded ops a.tmps)=b:=by
   intro b hb
   refine Ji hfv ?_
   rw [←hb]
   unfold Cd
   cases hg:o.guard with
   |none=>rfl
   |some g=>
    obtain ⟨j,want⟩:=g
    simp only
    cases ht:(ops[j]?).bind (·.dst) with
    |none=>rfl
    |some t=>
     simp only
     have htn:t∈C3 ops o:=by
      unfold C3 Oper.looksAt
      rw [hg]
      simp only [List.mem_append]
      exact .inr (.inr (by rw [ht];simp))
     rw [hcur t htn]
  have hlisted':∀j,(listed.setIfInBounds i true).getD j false=if j=i then true else listed.getD j false:=by
   intro j
   by_cases e:j=i
   ·subst e
    simp [Array.getD_eq_getD_getElem?,show j<listed.size by omega]
   ·rw [if_neg e]
    simp [Array.getD_eq_getD_getElem?,Array.getElem?_setIfInBounds_ne (fun h=>e h.symm)]
  have hdown2:∀j o' e,ops[j]? =some o'→(listed.setIfInBounds i true).getD j false=true→e∈o'.after→Region.binds .any e=true→(listed.setIfInBounds i true).getD e.on false=true:=by
   intro j o' e hj hl he hb
   rw [hlisted'] at hl ⊢
   split
   ·rfl
   ·by_cases ej:j=i
    ·subst ej
     rw [ho] at hj;cases hj
     exact hdeps e he hb
    ·rw [if_neg ej] at hl
     exact hdown j o' e hj hl he hb
  have hslot:∀(H':Hp) (β':Bt) (u:Value),FV n H' β' a (Bq f0 pre L (fun j=>listed.getD j false) pre.length)→VS H' β' u s→FV n H' β' (a.put o.dst u) (Bq f0 pre L (fun j=>(listed.setIfInBounds i true).getD j false) pre.length):=by
   intro H' β' u hfv' hu
   have hp:=hfv'.put hu o.dst hoin.2
   refine ⟨hp.defers,hp.size,fun t ht=> ?_⟩
   have h1:=hp.slot t ht
   have hsame:∀j,j≠i→(fun j=>(listed.setIfInBounds i true).getD j false) j=(fun j=>listed.getD j false) j:=fun j hj=>by simp only;rw [hlisted',if_neg hj]
   by_cases hd:o.dst=some t
   ·have ht':t∈C3 ops o:=by unfold C3;simp [hd]
    have e1:Bq f0 pre L (fun j=>(listed.setIfInBounds i true).getD j false) pre.length t=Bq f0 pre L (fun j=>(listed.setIfInBounds i true).getD j false) (i+1) t:=by
     refine Jf (fun j o' hj hj' hd'=> ?_) pre.length (by omega)
     show (listed.setIfInBounds i true).getD j false=false
     rw [hlisted',if_neg (by omega)]
     exact hhi t ht' j o' (by omega) hj' hd'
    have e2:Bq f0 pre L (fun j=>(listed.setIfInBounds i true).getD j false) (i+1) t=s:=by
     unfold Bq
     rw [hol,hLi]
     have hb:(listed.setIfInBounds i true).getD i false=true:=by rw [hlisted',if_pos rfl]
     simp only [hb,cond_true,Bw,hd,Dj,B1]
    have e3:Bw (Bq f0 pre L (fun j=>listed.getD j false) pre.length) o.dst s t=s:=by rw [hd];simp only [Bw,Dj,B1,cond_true]
    rw [e1,e2]
    rw [e3] at h1
    exact h1
   ·have e1:=Mf (f:=f0) (L:=L) (lst:=fun j=>listed.getD j false) (t:=t) hsame (fun o' h=>by rw [hol] at h;cases h;exact hd) pre.length
    have e3:Bw (Bq f0 pre L (fun j=>listed.getD j false) pre.length) o.dst s t=Bq f0 pre L (fun j=>listed.getD j false) pre.length t:=by
     cases hdd:o.dst with
     |none=>rfl
     |some t'=>
      have:t'≠t:=fun e=>hd (by rw [hdd,e])
      simp only [Bw,Dj,Cb this,cond_false]
    rw [e1]
    rw [e3] at h1
    exact h1
  have hun2:∀(β':Bt),(∀j,j∉ids→β' j=β j)→∀(k:Nat) (ids':List Nat) (s':S),L[k]? =some (ids',s')→(listed.setIfInBounds i true).getD k false=false→∀j∈ids',β' j=none:=by
   intro β' hβ' k ids' s' hk hl j hj
   rw [hlisted'] at hl
   by_cases e:k=i
   ·rw [if_pos e] at hl;cases hl
   ·rw [if_neg e] at hl
    rw [hβ' j (fun hc=>e (huniq k i ids' ids s' s j hk hLi hj hc))]
    exact hun k ids' s' hk hl j hj
  have hsz':(listed.setIfInBounds i true).size=ops.size:=by simpa using hsz
  have hunp2:∀k,pre.length≤k→(listed.setIfInBounds i true).getD k false=false:=fun k hk=>by rw [hlisted',if_neg (by omega)];exact hunp k hk
  unfold wpOp
  rw [ho]
  simp only
  rcases hok i o ids s hol hLi with ⟨hw,hcalm⟩|⟨hw,rfl,rfl⟩
  ·rw [if_pos (hguard _ hw)]
   refine .inl (Hy (hcalm E H β a w hsim (hun i ids s hLi hunl') hop) ?_)
   rintro a' w' ⟨H',β',u,rfl,k1,k2,k3,k4,k5⟩
   exact ⟨⟨hsz',hdown2,hunp2⟩,H',β',k1,hslot H' β' u (hfv.mono k2 k3) k5,hun2 β' k4⟩
  ·rw [if_neg (by rw [hguard _ hw];simp)]
   exact ⟨⟨hsz',hdown2,hunp2⟩,H,β,hsim,hslot H β undef hfv (.d (.v _)),hun2 β fun _ _=>rfl⟩
 ·rintro listed a w ⟨⟨hsz,hdown,hunp⟩,H,β,hsim,hfv,hun⟩ hall
  refine hk hin2 E H β a w hsim ?_
  have e:∀k,k≤pre.length→Bq f0 pre L (fun j=>listed.getD j false) k=Bq f0 pre L Fp k:=by
   intro k
   induction k with
   |zero=>intro _;rfl
   |succ k ih=>
    intro hk'
    unfold Bq
    rw [ih (by omega)]
    cases pre[k]? with
    |none=>rfl
    |some o=>
     cases L[k]? with
     |none=>rfl
     |some q=>simp only [hall k (by omega),Fp]
  rw [e pre.length (Nat.le_refl _),hfin] at hfv
  exact hfv
theorem An7 {P:Program} {n id:Nat} {pre suf:List Oper} {ops:Array Oper} {K:D3} {f:Fr} {h:Xh} (sites:List Nat) (hopsE:ops=(pre++suf).toArray) (hne:0<suf.length) (hm:P.follows .mixedOrders=true) (hin:pre.all (inN n)=true) (hin2:suf.all (inN n)=true)
  (hreg:Lx ops pre=true) (hS:Si ops pre.length=true) (hnd:sites.Nodup)
  (hc:ChK P n ops pre (Fc f sites) (Fl h sites) [] (fun L f' h'=>L.flatMap (·.1)=sites∧XL P n ops suf K f' h')):XW P n (.region id ops true) K f h:=by
 obtain ⟨L,f',h',k1,k2,k3⟩:=hc
 exact Ak3 sites hopsE hne hm hin hin2 hreg hS k1 k2 hnd k3
theorem C1 {P:Program} {n id:Nat} {l:List Oper} {K:D3} {f:Fr} {h:Xh} (p:Nat) (sites:List Nat) (hm:P.follows .mixedOrders=true) (hin:l.all (inN n)=true) (hreg:Lx l.toArray (l.take p)=true) (hS:(Nat.blt p l.length && Si l.toArray p)=true) (hnd:sites.Nodup)
  (hc:ChK P n l.toArray (l.take p) (Fc f sites) (Fl h sites) [] (fun L f' h'=>L.flatMap (·.1)=sites∧XL P n l.toArray (l.drop p) K f' h')):XW P n (.region id l.toArray true) K f h:=by
 rw [Bool.and_eq_true] at hS
 have hp:=Gm hS.1
 rw [←List.take_append_drop p l,List.all_append,Bool.and_eq_true] at hin
 exact An7 sites (by rw [List.take_append_drop]) (by rw [List.length_drop];omega) hm hin.1 hin.2 hreg (by rw [List.length_take,Nat.min_eq_left (by omega)];exact hS.2) hnd hc
theorem Qf {e:TypeId} {sz k:Nat} {α:Type} {g:α→List D} {l l':List α} {a:α} {ds:List D} (hd:ds=g a) (hl:l'=l.set k a):some (XO.row e sz ((l.map g).set k ds))=some (XO.row e sz (l'.map g)):=by rw [hl,hd,List.map_set]
end Go.Proofs.YtcihalbakenleaaGreat
namespace Go.Proofs.YtcihalbakenleaaGreat
open Go.RowKit
def tot (l:List Int):Int:=l.foldl (· + ·) 0
theorem Id (l:List Int) (x:Int):tot (l++ [x])=tot l+x:=by unfold tot;rw [List.foldl_append];rfl
theorem Oz {l:List Int} {k:Nat} {x:Int} (h:l[k]? =some x):tot (l.take (k+1))=tot (l.take k)+x:=by rw [Bb h,Id]
structure Nums (l:List Int):Prop where
 len:l.length≤128
 bd:∀x∈l,0≤x∧x≤253671505920
theorem Aof {l:List Int}:(∀x∈l,0≤x∧x≤253671505920)→0≤tot l∧tot l≤(l.length:Int)*253671505920:=by
 refine Ky (p:=fun l=>(∀x∈l,0≤x∧x≤253671505920)→0≤tot l∧tot l≤(l.length:Int)*253671505920) (fun _=>by simp [tot]) (fun l x ih h=> ?_) l
 have h1:=ih fun y hy=>h y (List.mem_append_left _ hy)
 have h2:=h x (List.mem_append_right _ (List.mem_singleton.2 rfl))
 rw [Id,List.length_append,List.length_singleton,Int.natCast_add,Int.add_mul]
 omega
theorem Nums.tot {l:List Int} (h:Nums l):0≤Go.Proofs.YtcihalbakenleaaGreat.tot l∧Go.Proofs.YtcihalbakenleaaGreat.tot l≤32469952757760:=by
 have:=Aof h.bd
 have:=h.len
 omega
theorem Nums.take {l:List Int} (h:Nums l) (k:Nat):Nums (l.take k):=⟨Nat.le_trans (List.length_take_le' _ _) h.len,fun x hx=>h.bd x (List.mem_of_mem_take hx)⟩
def Evs (l:List Ev):Prop:=∀e∈l,e.art≤9223372036854775807
def wrS (l:List Ev):List Int:=l.map Ev.len
theorem X5 (l:List Int) (h:Nums l):XC Tryz.prog 61 [.sl 1 (Bu l)] (fun r=>r=dI (tot l)):=by
 refine Ap Ad5 Tryz.func61 R R lb<|zr<|za R R<|znr<|za R R<|zn<|zs<|zr<|zm R R<|XL.len R R R Tryz.underlying64 fun hl7=>zm R R<|zn<|Ag<|?_
 refine Ax (α:=Nat) (fun k=>k≤l.length) (fun k=>mkF [(2, .d (dI 0)),(3, .d (dI (tot (l.take k)))),(6, .d (.sl 1 (Bu l))),(7, .d (dI l.length)),(8, .d (dI k))]) (fun k=>mkH []) (fun k=>l.length - k) (0) (Nat.zero_le _) ?_ ?_ ?_
 exact fz ⟨sr,sr,sr,sr,sr,trivial⟩
 exact HSub.nil
 intro k hk0
 refine zr<|zp (At R R R)<|zn<|zs<|?_
 refine zd R (fun c9=> ?_) (fun c9=> ?_)
 have hk0a:k<l.length:=by omega
 obtain ⟨x0,hx0⟩:=As hk0a
 have h1:=(h.take k).tot
 have h2:=h.bd x0 (List.mem_of_getElem? hx0)
 refine zi<|zs<|Ag<|zr<|zp (Aj R R R C5 hx0)<|zp (Aw R R Ah)<|za R R<|zng<|zm R R<|zm R R<|zp (Ak R R R (by omega) (by omega))<|za R R<|zn<|Af (by kernel_rfl)<|?_
 refine zp (Ak R R R (by omega) (by omega))<|zm R R<|zn<|?_
 exact Al (k+1) (by omega) (by omega) (fz ⟨sr, .same (sI (by rw [Oz hx0])),sr,sr,sr,trivial⟩) (HSub.nil)
 have hk0b:k=l.length:=by omega
 have ht:l.take k=l:=by rw [hk0b,List.take_length]
 exact An<|zr<|zm R R<|za R R<|zn<|zt<|z1 R R (rI (by rw [ht]))
def Kr (l:List Int) (k:Nat):List Int:=(List.range l.length).map fun j=>if j<k then tot (l.take j) else 0
def Ea (l:List Int):List Int:=(List.range l.length).map fun j=>tot (l.take j)
theorem Yz (l:List Int) (k:Nat):(Kr l k).length=l.length:=by rw [Kr,List.length_map,List.length_range]
theorem Amb (l:List Int):List.replicate l.length (0:Int)=Kr l 1:=by
 rw [Kr]
 refine List.ext_getElem? fun j=> ?_
 rw [List.getElem?_replicate,List.getElem?_map]
 by_cases h:j<l.length
 ·rw [if_pos h,List.getElem?_range h,Option.map_some]
  congr 1
  split
  ·have:j=0:=by omega
   subst this;rfl
  ·rfl
 ·rw [if_neg h,List.getElem?_eq_none (by rw [List.length_range];omega)];rfl
theorem Y0 {l:List Int} {j k:Nat} (h:j<k) (hj:j<l.length):(Kr l k)[j]? =some (tot (l.take j)):=by
 rw [Kr,List.getElem?_map,List.getElem?_range hj,Option.map_some,if_pos h]
theorem Ama {l:List Int} {k:Nat} (hk:k<l.length):(Kr l k).set k (tot (l.take k))=Kr l (k+1):=by
 refine List.ext_getElem? fun j=> ?_
 rw [List.getElem?_set]
 split
 ·rename_i h
  subst h
  rw [if_pos (by rw [Yz];exact hk),Y0 (by omega) hk]
 ·rename_i h
  rw [Kr,Kr,List.getElem?_map,List.getElem?_map]
  by_cases hj:j<l.length
  ·rw [List.getElem?_range hj,Option.map_some,Option.map_some]
   congr 1
   by_cases e:j<k
   ·rw [if_pos e,if_pos (by omega)]
   ·rw [if_neg e,if_neg (by omega)]
  ·rw [List.getElem?_eq_none (by rw [List.length_range];omega)];rfl
theorem Amc {l:List Int} {k:Nat} (hk:l.length≤k):Kr l k=Ea l:=by
 rw [Kr,Ea]
 refine List.map_congr_left fun j hj=> ?_
 rw [if_pos (by have:=List.mem_range.1 hj;omega)]
theorem Ajq (l:List Int) (h:Nums l):XC Tryz.prog 69 [.sl 1 (Bu l)] (fun r=>r= .sl 1 (Bu (Ea l))):=by
 have hll:=h.len
 refine Ap Ady Tryz.func69 R R lb<|zr<|za R R<|znr<|zm R R<|XL.len R R R Tryz.underlying64 fun hl6=>XL.step R (Oi 7 (z:=(.int .i64 0)) (zs:= [dI 0]) (sz:=1) (bytes:=8) R R R Tryz.underlying64 (by kernel_rfl) (by kernel_rfl) (by kernel_rfl) (by decide) (by decide) (by omega) (by unfold maxLen;omega) (by omega))<|zp (Aq R (by conv=>lhs;whnf))<|?_
 refine zn<|zs<|zr<|za R R<|zn<|Ag<|?_
 refine Ax (α:=Nat) (fun k=>1≤k∧k≤l.length+1) (fun k=>mkF [(0, .d (.sl 1 (Bu l))),(2, .d (.v (.slice none 0 0))),(3, .own 7),(4, .d (dI k))]) (fun k=>mkH [(7, .row 3 1 ((Kr l k).map iv))]) (fun k=>l.length+1 - k) (1) (⟨Nat.le_refl _,by omega⟩) ?_ ?_ ?_
 exact fz ⟨sr,sr,sr,sr,trivial⟩
 exact gz ⟨by rw [←Amb,List.map_replicate];rfl,trivial⟩
 intro k hk0
 refine zs<|zr<|zm R R<|zm R R<|XL.len R R R Tryz.underlying64 fun hl10=>zp (At R R R)<|zn<|?_
 refine zd R (fun c11=> ?_) (fun c11=> ?_)
 have hkl:k<l.length:=by omega
 have h1:=(h.take (k - 1)).tot
 obtain ⟨x,hx⟩:∃x,l[k - 1]? =some x:=As (by omega)
 have h2:=h.bd x (List.mem_of_getElem? hx)
 have ho:=Y0 (l:=l) (k:=k) (j:=k - 1) (by omega) (by omega)
 have hol:=Yz l k
 obtain ⟨z,hz⟩:∃z,(Kr l k)[k]? =some z:=As (by omega)
 have htk:tot (l.take k)=tot (l.take (k - 1))+x:=by have:=Oz hx;rwa [Nat.sub_add_cancel (by omega)] at this
 refine zi<|zs<|Ag<|C1 13 [] (by kernel_rfl) (by kernel_rfl) (by kernel_rfl) (by kernel_rfl) (by decide)<|yp (Au R (by conv=>lhs;whnf))<|?_
 refine ym R R<|yp (Au R (by conv=>lhs;whnf))<|?_
 refine ym R R<|yp (C7 R R R (by omega) (by omega))<|yp (Ep R R R ((by omega:(k:Int) - 1=((k - 1:Nat):Int))) R C5 (by omega))<|yp (Pg R R Ah R (E9 (ho)) R)<|ym R R<|ym R R<|yp (C7 R R R (by omega) (by omega))<|yp (Dl R R R ((by omega:(k:Int) - 1=((k - 1:Nat):Int))) C5 (hx))<|yp (Aw R R Ah)<|yp (Ak R R R (by omega) (by omega))<|?_
 refine ChK.nil ⟨by kernel_rfl, ?_⟩
 refine zp (Kp R R R R C5 (by omega))<|XL.step R (Gd R R R (E9 hz) R R C0 R lb)<|zn<|Af (by kernel_rfl)<|zm R R<|zp (Ak R R R (by omega) (by omega))<|za R R<|zn<|?_
 exact Al (k+1) (by omega) (by omega) (fz ⟨sr,sr,sr,sr,trivial⟩) (gz ⟨Qf (a:=tot (l.take k)) (by rw [htk];rfl) (Ama hkl).symm,trivial⟩)
 have he:=Amc (l:=l) (k:=k) (by omega)
 refine An<|zr<|zp (Au R (by conv=>lhs;whnf))<|?_
 refine zp (Aq R (by conv=>lhs;whnf))<|?_
 exact zn<|zt<|Bj (i:=7) R<|z1 R R (rSl he)
end Go.Proofs.YtcihalbakenleaaGreat
namespace Go.Proofs.YtcihalbakenleaaGreat
open Go.RowKit
def Jn (f:Nat→Int) (n k:Nat):List Int:=(List.range n).map fun j=>if j<k then f j else 0
theorem W5 (f:Nat→Int) (n k:Nat):(Jn f n k).length=n:=by rw [Jn,List.length_map,List.length_range]
theorem Ah4 (f:Nat→Int) (n:Nat):List.replicate n (0:Int)=Jn f n 0:=by
 rw [Jn]
 refine List.ext_getElem? fun j=> ?_
 rw [List.getElem?_replicate,List.getElem?_map]
 by_cases h:j<n
 ·rw [if_pos h,List.getElem?_range h,Option.map_some,if_neg (by omega)]
 ·rw [if_neg h,List.getElem?_eq_none (by rw [List.length_range];omega)];rfl
theorem Akj {f:Nat→Int} {n k:Nat} (hk:k<n):Jn f n (k+1)=(Jn f n k).set k (f k):=by
 refine List.ext_getElem? fun j=> ?_
 rw [List.getElem?_set]
 split
 ·rename_i h
  subst h
  rw [if_pos (by rw [W5];exact hk),Jn,List.getElem?_map,List.getElem?_range hk,Option.map_some,if_pos (by omega)]
 ·rename_i h
  rw [Jn,Jn,List.getElem?_map,List.getElem?_map]
  by_cases hj:j<n
  ·rw [List.getElem?_range hj,Option.map_some,Option.map_some]
   congr 1
   by_cases e:j<k
   ·rw [if_pos e,if_pos (by omega)]
   ·rw [if_neg e,if_neg (by omega)]
  ·rw [List.getElem?_eq_none (by rw [List.length_range];omega)];rfl
theorem Akk {f:Nat→Int} {n k:Nat} (hk:n≤k):Jn f n k=(List.range n).map f:=by
 rw [Jn]
 refine List.map_congr_left fun j hj=> ?_
 rw [if_pos (by have:=List.mem_range.1 hj;omega)]
def Mb (l:List Ev) (j:Nat):Int:=((l[j]?).map Ev.len).getD 0
theorem Ami {l:List Ev} {k:Nat} {e:Ev} (h:l[k]? =some e):Mb l k=e.len:=by rw [Mb,h];rfl
theorem Aj8 (l:List Ev):(List.range l.length).map (Mb l)=wrS l:=by
 refine List.ext_getElem? fun j=> ?_
 rw [List.getElem?_map,wrS,List.getElem?_map]
 by_cases hj:j<l.length
 ·rw [List.getElem?_range hj,Option.map_some,Mb,List.getElem?_eq_getElem hj];rfl
 ·rw [List.getElem?_eq_none (by rw [List.length_range];omega),List.getElem?_eq_none (by omega)];rfl
theorem Aco (l:List Ev) (hE:Evs l) (hlen:l.length≤128):XC Tryz.prog 132 [.sl 13 (l.map Ev.c)] (fun r=>r= .sl 1 (Bu (wrS l))):=by
 refine Ap Abj Tryz.func132 R R lb<|zr<|za R R<|znr<|zm R R<|XL.len R R R Tryz.underlying22 fun hl7=>XL.step R (Oi 8 (z:=(.int .i64 0)) (zs:= [dI 0]) (sz:=1) (bytes:=8) R R R Tryz.underlying64 (by kernel_rfl) (by kernel_rfl) (by kernel_rfl) (by decide) (by decide) (by omega) (by unfold maxLen;omega) (by omega))<|zp (Aq R (by conv=>lhs;whnf))<|?_
 refine zn<|zs<|zr<|zm R R<|XL.len R R R Tryz.underlying22 fun hl10=>zm R R<|zn<|Ag<|?_
 refine Ax (α:=Nat) (fun k=>k≤l.length) (fun k=>mkF [(2, .d (.v (.slice none 0 0))),(3, .own 8),(9, .d (.sl 13 (l.map Ev.c))),(10, .d (dI l.length)),(11, .d (dI k))]) (fun k=>mkH [(8, .row 3 1 ((Jn (Mb l) l.length k).map iv))]) (fun k=>l.length - k) (0) (Nat.zero_le _) ?_ ?_ ?_
 exact fz ⟨sr,sr,sr,sr,sr,trivial⟩
 exact gz ⟨by rw [←Ah4,List.map_replicate];rfl,trivial⟩
 intro k hk0
 refine zr<|zp (At R R R)<|zn<|zs<|?_
 refine zd R (fun c12=> ?_) (fun c12=> ?_)
 have hk0a:k<l.length:=by omega
 obtain ⟨x0,hx0⟩:=As hk0a
 have he:=hE x0 (List.mem_of_getElem? hx0)
 have hfl:=W5 (Mb l) l.length k
 obtain ⟨z,hz⟩:∃z,(Jn (Mb l) l.length k)[k]? =some z:=As (by omega)
 refine zi<|zs<|Ag<|zr<|zm R R<|zp (Aj R R R Cv hx0)<|zp (Ad (s':= .d (.agg (Ev.c x0))) (Ar R R A1 lb) (by kernel_rfl))<|XL.step R (A9 5 (l:= [.d (dI 0), .d (dI 0), .d (dI 0), .d (dI 0), .d (dI 0), .d (.v (.slice none 0 0)), .d (.v (.slice none 0 0)), .d (dI 0), .d (dI 0), .d (dI 0), .d (.v (.slice none 0 0)), .d (dI 0), .d (dI 0)]) R B3 (by kernel_rfl))<|?_
 refine za R R<|XL.step R (Ai (l':= [.d (dI x0.site), .d (dI x0.num), .d (dI x0.kind), .d (dI x0.v.log), .d (dI x0.v.dots), .d (.sl 5 (x0.heads.map Hd.c)), .d (.sl 5 (x0.graces.map Gr.c)), .d (dI x0.art), .d (dI x0.orn), .d (dI x0.dyn), .d (.sl 2 (x0.lyr.map Sy.c)), .d (dI x0.stem), .d (dI x0.beam)]) R R R R B4 R lb (by kernel_rfl))<|zng<|zp (Au R (by conv=>lhs;whnf))<|?_
 refine zm R R<|zp (Ad (s':= .d (.agg (Ev.c x0))) (Ae (Ac R R A1 R lb)) (by kernel_rfl))<|XL.call1 R R (Age _ (by assumption)) R<|zm R R<|zp (Bh R R R)<|zp (Bh R R R)<|zp (Kp R R R R C5 (by omega))<|XL.step R (Gd R R R (E9 hz) R R C0 R lb)<|zn<|Af (by kernel_rfl)<|zp (Ak R R R (by omega) (by omega))<|zm R R<|zn<|?_
 exact Al (k+1) (by omega) (by omega) (fz ⟨sr,sr,sr,sr,sr,trivial⟩) (gz ⟨Qf (a:=Mb l k) (by rw [Ami hx0];rfl) (Akj hk0a),trivial⟩)
 have hk0b:k=l.length:=by omega
 have he:=Akk (f:=Mb l) (n:=l.length) (k:=k) (by omega)
 refine An<|zr<|zp (Au R (by conv=>lhs;whnf))<|?_
 refine zp (Aq R (by conv=>lhs;whnf))<|?_
 exact zn<|zt<|Bj (i:=8) R<|z1 R R (rSl (by rw [he,Aj8]))
def Vo.whole (v:Vo):Prop:=match v.evs with| []=>False|e::_=>e.kind=3
instance (v:Vo):Decidable v.whole:=by unfold Vo.whole;cases v.evs<;>exact inferInstance
theorem J3 {v:Vo} {e:Ev} (h:v.evs[0]? =some e):v.whole↔e.kind=3:=by
 unfold Vo.whole
 cases hv:v.evs with
 |nil=>rw [hv] at h;cases h
 |cons x l=>rw [hv] at h;cases h;exact Iff.rfl
theorem Ak7 {v:Vo} (h:¬0<(v.evs.length:Int)):¬v.whole:=by
 unfold Vo.whole
 cases hv:v.evs with
 |nil=>exact fun h=>h
 |cons x l=>rw [hv] at h;simp at h
def Vo.absent (v:Vo):Prop:=v.evs.length=0∧v.tups.length=0
instance (v:Vo):Decidable v.absent:=by unfold Vo.absent;exact inferInstance
theorem Ak6 (v:Vo):XC Tryz.prog 87 [.agg (Vo.c v)] (fun r=>r=dB (decide v.whole)):=by
 refine Ap Adj Tryz.func87 R R lb<|zr<|XL.step R (Ay 1 (l:= [.d (.sl 13 (v.evs.map Ev.c)), .d (.sl 4 (v.tups.map Tp.c))]) R R (by kernel_rfl))<|za R R<|znr<|zp (Aa R R A0)<|zp (Ab R R Bl R R)<|XL.len R R R Tryz.underlying22 fun hl5=>zp (A6 R R R)<|zm R R<|?_
 refine XL.dec 7 R (fun g7=> ?_) (fun g7=> ?_)
 obtain ⟨e,he⟩:∃e,v.evs[0]? =some e:=As (by omega)
 exact zp (Aa R R A0)<|zp (Ab R R Bl R R)<|zp (Aj (k:=0) R R R Cv (he))<|zp (A7 R R Bp)<|zp (Aw R R Ah)<|zp (Az R R R)<|zq R R R<|za R R<|zn<|zt<|z1 R R (rB (by rw [decide_eq_decide];exact (J3 he).symm))
 exact zk 6 R<|zq R R R<|za R R<|zn<|zt<|z1 R R (rB (by rw [eq_comm,decide_eq_false_iff_not];exact Ak7 g7))
theorem Agi (v:Vo):XC Tryz.prog 47 [.agg (Vo.c v)] (fun r=>r=dB (decide v.absent)):=by
 refine Ap Aei Tryz.func47 R R lb<|zr<|XL.step R (Ay 1 (l:= [.d (.sl 13 (v.evs.map Ev.c)), .d (.sl 4 (v.tups.map Tp.c))]) R R (by kernel_rfl))<|za R R<|znr<|zp (Aa R R A0)<|zp (Ab R R Bl R R)<|XL.len R R R Tryz.underlying22 fun hl5=>zp (Az R R R)<|zm R R<|?_
 refine XL.dec 7 R (fun g7=> ?_) (fun g7=> ?_)
 exact zp (Aa R R B0)<|zp (Ab R R Bz R R)<|XL.len R R R Tryz.underlying23 fun hl10=>zp (Az R R R)<|zq R R R<|za R R<|zn<|zt<|z1 R R (rB (by rw [decide_eq_decide];unfold Vo.absent;omega))
 exact zk 4 R<|zq R R R<|za R R<|zn<|zt<|z1 R R (rB (by rw [eq_comm,decide_eq_false_iff_not];unfold Vo.absent;omega))
def Eq (n:Nat):Nat→List Ev→Int
 |_, []=>0
 |k,e::r=>if e.err≠0 then e.err else if e.kind=3∧(0<k∨1<n) then 11 else Eq n (k+1) r
def Fv (v:Vo):Int:=
 if Eq v.evs.length 0 v.evs≠0 then Eq v.evs.length 0 v.evs else if C2 v.tups (wrS v.evs)≠0 then C2 v.tups (wrS v.evs) else if Fy v.tups (wrS v.evs)≠0 then 21 else 0
def G6 (v:Vo):List Int:=if Fv v=0 then Ha v.tups (wrS v.evs) else []
theorem S6 {n k:Nat} {l:List Ev} {e:Ev} (h:l[k]? =some e) (he:e.err≠0):Eq n k (l.drop k)=e.err:=by rw [Ct h,Eq,if_pos he]
theorem Lq {n k:Nat} {l:List Ev} {e:Ev} (h:l[k]? =some e) (he:¬e.err≠0) (hk:e.kind=3∧(0<k∨1<n)):Eq n k (l.drop k)=11:=by rw [Ct h,Eq,if_neg he,if_pos hk]
theorem Nw {n k:Nat} {l:List Ev} {e:Ev} (h:l[k]? =some e) (he:¬e.err≠0) (hk:¬(e.kind=3∧(0<k∨1<n))):Eq n k (l.drop k)=Eq n (k+1) (l.drop (k+1)):=by rw [Ct h,Eq,if_neg he,if_neg hk]
theorem Nv {v:Vo} {e:Int} (he:e=Eq v.evs.length 0 v.evs) (hn:e≠0): []=G6 v∧e=Fv v:=by
 have e2:Fv v=e:=by rw [Fv, ←he,if_pos hn]
 exact ⟨by rw [G6,e2,if_neg hn],e2.symm⟩
theorem Ahr {v:Vo} (h:Eq v.evs.length 0 v.evs=0) (hn:C2 v.tups (wrS v.evs)≠0): []=G6 v∧C2 v.tups (wrS v.evs)=Fv v:=by
 have e2:Fv v=C2 v.tups (wrS v.evs):=by rw [Fv,if_neg (by omega),if_pos hn]
 exact ⟨by rw [G6,e2,if_neg hn],e2.symm⟩
theorem Ahq {v:Vo} (h:Eq v.evs.length 0 v.evs=0) (h2:¬C2 v.tups (wrS v.evs)≠0) (hn:Fy v.tups (wrS v.evs)≠0): []=G6 v∧21=Fv v:=by
 have e2:Fv v=21:=by rw [Fv,if_neg (by omega),if_neg h2,if_pos hn]
 exact ⟨by rw [G6,e2,if_neg (by decide)],e2.symm⟩
theorem Ahp {v:Vo} (h:Eq v.evs.length 0 v.evs=0) (h2:¬C2 v.tups (wrS v.evs)≠0) (h3:¬Fy v.tups (wrS v.evs)≠0):Ha v.tups (wrS v.evs)=G6 v∧0=Fv v:=by
 have e2:Fv v=0:=by rw [Fv,if_neg (by omega),if_neg h2,if_neg h3]
 exact ⟨by rw [G6,e2,if_pos rfl],e2.symm⟩
theorem Zf (v:Vo) (hE:Evs v.evs) (hlen:v.evs.length≤128):XC Tryz.prog 88 [.agg (Vo.c v)] (fun r=>r= .tup [.sl 1 (Bu (G6 v)),dI (Fv v)]):=by
 refine Ap Adi Tryz.func88 R R lb<|zr<|XL.step R (Ay 1 (l:= [.d (.sl 13 (v.evs.map Ev.c)), .d (.sl 4 (v.tups.map Tp.c))]) R R (by kernel_rfl))<|za R R<|za R R<|zn<|zs<|zr<|zp (Aa R R A0)<|zp (Ab R R Bl R R)<|XL.len R R R Tryz.underlying22 fun hl14=>zm R R<|zn<|Ag<|?_
 refine Ax (α:=Nat) (fun k=>k≤v.evs.length∧Eq v.evs.length k (v.evs.drop k)=Eq v.evs.length 0 v.evs) (fun k=>mkF [(1, .ptr 1 0 0),(13, .d (.sl 13 (v.evs.map Ev.c))),(14, .d (dI v.evs.length)),(15, .d (dI k))]) (fun k=>mkH [(1, .box ((Vo.c v).map S.d))]) (fun k=>v.evs.length - k) (0) (⟨Nat.zero_le _,by rw [List.drop_zero]⟩) ?_ ?_ ?_
 exact fz ⟨sr,sr,sr,sr,trivial⟩
 exact gz ⟨R,trivial⟩
 intro k hk0
 obtain ⟨hk,hgo⟩:=hk0
 refine zr<|zp (At R R R)<|zn<|zs<|?_
 refine zd R (fun c16=> ?_) (fun c16=> ?_)
 have hk0a:k<v.evs.length:=by omega
 obtain ⟨x0,hx0⟩:=As hk0a
 have he:=hE x0 (List.mem_of_getElem? hx0)
 refine zi<|zs<|Ag<|zr<|zm R R<|zp (Aj R R R Cv hx0)<|zp (Ad (s':= .d (.agg (Ev.c x0))) (Ar R R A1 lb) (by kernel_rfl))<|XL.step R (A9 5 (l:= [.d (dI 0), .d (dI 0), .d (dI 0), .d (dI 0), .d (dI 0), .d (.v (.slice none 0 0)), .d (.v (.slice none 0 0)), .d (dI 0), .d (dI 0), .d (dI 0), .d (.v (.slice none 0 0)), .d (dI 0), .d (dI 0)]) R B3 (by kernel_rfl))<|?_
 refine za R R<|XL.step R (Ai (l':= [.d (dI x0.site), .d (dI x0.num), .d (dI x0.kind), .d (dI x0.v.log), .d (dI x0.v.dots), .d (.sl 5 (x0.heads.map Hd.c)), .d (.sl 5 (x0.graces.map Gr.c)), .d (dI x0.art), .d (dI x0.orn), .d (dI x0.dyn), .d (.sl 2 (x0.lyr.map Sy.c)), .d (dI x0.stem), .d (dI x0.beam)]) R R R R B4 R lb (by kernel_rfl))<|zn<|zs<|zr<|?_
 refine zp (Ad (s':= .d (.agg (Ev.c x0))) (Ae (Ac R R A1 R lb)) (by kernel_rfl))<|XL.call1 R R (Qz _ (by assumption)) R<|za R R<|znr<|zm R R<|zp (Bc R R R)<|zn<|?_
 refine zd R (fun c23=> ?_) (fun c23=> ?_)
 refine zr<|zm R R<|za R R<|za R R<|zn<|zt<|?_
 exact Bs R (RV.nil (sz:=1) R R) (RV.tmp R R) (r2 (rSl (Nv (by rw [←hgo,S6 hx0 c23]) c23).1) (rI (Nv (by rw [←hgo,S6 hx0 c23]) c23).2))
 refine zi<|zr<|zp (Aa R R Bp)<|zp (Ab R R Ah R R)<|zp (Az R R R)<|zm R R<|?_
 refine XL.dec 28 R (fun g28=> ?_) (fun g28=> ?_)
 refine zm R R<|zp (A6 R R R)<|zm R R<|?_
 refine XL.dec 31 R (fun g31=> ?_) (fun g31=> ?_)
 refine zk 4 R<|zq R R R<|zq R R R<|zn<|Ao (by kernel_rfl) R<|zr<|za R R<|za R R<|zn<|zt<|?_
 exact Bs R (RV.nil (sz:=1) R R) (RV.tmp R R) (r2 (rSl (Nv (e:=11) (by rw [←hgo,Lq hx0 c23 (by omega)]) (by decide)).1) (rI (Nv (by rw [←hgo,Lq hx0 c23 (by omega)]) (by decide)).2))
 refine zp (Aa R R A0)<|zp (Ab R R Bl R R)<|XL.len R R R Tryz.underlying22 fun hl34=>zp (A6 R R R)<|zq R R R<|zq R R R<|zn<|?_
 refine zd R (fun c37=> ?_) (fun c37=> ?_)
 refine zr<|za R R<|za R R<|zn<|zt<|?_
 exact Bs R (RV.nil (sz:=1) R R) (RV.tmp R R) (r2 (rSl (Nv (e:=11) (by rw [←hgo,Lq hx0 c23 (by omega)]) (by decide)).1) (rI (Nv (by rw [←hgo,Lq hx0 c23 (by omega)]) (by decide)).2))
 refine zi<|Af (by kernel_rfl)<|zp (Ak R R R (by omega) (by omega))<|zm R R<|zn<|?_
 exact Al (k+1) (⟨by omega,by rw [←Nw hx0 c23 (by omega)];exact hgo⟩) (by omega) (fz ⟨sr,sr,sr,sr,trivial⟩) (gz ⟨rfl,trivial⟩)
 refine zk 8 R<|zq R R R<|zn<|A3 (by kernel_rfl) R<|zi<|Af (by kernel_rfl)<|zp (Ak R R R (by omega) (by omega))<|zm R R<|zn<|?_
 exact Al (k+1) (⟨by omega,by rw [←Nw hx0 c23 (by omega)];exact hgo⟩) (by omega) (fz ⟨sr,sr,sr,sr,trivial⟩) (gz ⟨rfl,trivial⟩)
 have hk0b:k=v.evs.length:=by omega
 have hz:Eq v.evs.length 0 v.evs=0:=by rw [←hgo,hk0b,List.drop_length];rfl
 refine An<|zr<|zp (Aa R R A0)<|zp (Ab R R Bl R R)<|XL.call1 R R (Aco _ (by assumption) (by omega)) R<|za R R<|znr<|zp (Aa R R B0)<|zp (Ab R R Bz R R)<|zm R R<|XL.call1 R R (Ru _ _) R<|zm R R<|zp (Bh R R R)<|zp (Bh R R R)<|?_
 refine za R R<|za R R<|zn<|zs<|zr<|zm R R<|zp (Bc R R R)<|zn<|?_
 refine zd R (fun c50=> ?_) (fun c50=> ?_)
 refine zr<|zm R R<|za R R<|za R R<|zn<|zt<|?_
 exact Bs R (RV.nil (sz:=1) R R) (RV.tmp R R) (r2 (rSl (Ahr hz c50).1) (rI (Ahr hz c50).2))
 refine zi<|zs<|zr<|zp (Aa R R B0)<|zp (Ab R R Bz R R)<|zm R R<|XL.call1 R R (Ak9 _ _) R<|zm R R<|zp (Bh R R R)<|zp (Bh R R R)<|za R R<|za R R<|znr<|zm R R<|?_
 refine zp (Bc R R R)<|zn<|?_
 refine zd R (fun c60=> ?_) (fun c60=> ?_)
 refine zr<|za R R<|za R R<|zn<|zt<|?_
 exact Bs R (RV.nil (sz:=1) R R) (RV.tmp R R) (r2 (rSl (Ahq hz c50 c60).1) (rI (Ahq hz c50 c60).2))
 refine zi<|zr<|zm R R<|za R R<|za R R<|zn<|zt<|?_
 exact Bs R (RV.tmp R R) (RV.tmp R R) (r2 (rSl (Ahp hz c50 c60).1) (rI (Ahp hz c50 c60).2))
def B5 (v:Vo) (L:Int):Int:=
 if L<1∨15482880<L then 2 else if 128<v.evs.length then 9 else
 if v.whole∧v.evs.length=1 then (match v.evs with| []=>0|e::_=>if e.err≠0 then e.err else if 0<v.tups.length then 21 else 0) else Fv v
def C8 (v:Vo) (L:Int):List Int:=if B5 v L≠0 then [] else if v.whole∧v.evs.length=1 then [L] else G6 v
def ckE (v:Vo) (L:Int):Int:=if B5 v L=0∧0<(C8 v L).length∧tot (C8 v L)≠L then 20 else B5 v L
def ckL (v:Vo) (L:Int):List Int:=if ckE v L≠0 then [] else C8 v L
theorem Rk {v:Vo} {L:Int} (h:L<1∨15482880<L): []=C8 v L∧2=B5 v L:=by
 have e:B5 v L=2:=by rw [B5,if_pos h]
 exact ⟨by rw [C8,e,if_pos (by decide)],e.symm⟩
theorem Ahm {v:Vo} {L:Int} (h:¬L<1) (h':¬15482880<L) (h2:128<(v.evs.length:Int)): []=C8 v L∧9=B5 v L:=by
 have e:B5 v L=9:=by rw [B5,if_neg (by omega),if_pos (by omega)]
 exact ⟨by rw [C8,e,if_pos (by decide)],e.symm⟩
theorem Xt {v:Vo} {L:Int} (h:¬L<1) (h':¬15482880<L) (h2:¬128<(v.evs.length:Int)) (hw:v.whole) (h1:(v.evs.length:Int)=1) {e:Ev} (he:v.evs[0]? =some e):
  B5 v L=(if e.err≠0 then e.err else if 0<v.tups.length then 21 else 0):=by
 rw [B5,if_neg (by omega),if_neg (by omega),if_pos ⟨hw,by omega⟩]
 cases hv:v.evs with
 |nil=>rw [hv] at he;cases he
 |cons x l=>rw [hv] at he;cases he;rfl
theorem Ug {v:Vo} {L:Int} (h:¬L<1) (h':¬15482880<L) (h2:¬128<(v.evs.length:Int)) (hw:¬(v.whole∧(v.evs.length:Int)=1)):G6 v=C8 v L∧Fv v=B5 v L:=by
 have hw':¬(v.whole∧v.evs.length=1):=fun k=>hw ⟨k.1,by omega⟩
 have e:B5 v L=Fv v:=by rw [B5,if_neg (by omega),if_neg (by omega),if_neg hw']
 refine ⟨?_,e.symm⟩
 rw [C8,e,if_neg hw']
 split
 ·rename_i hn;rw [G6,if_neg hn]
 ·rfl
theorem Uh {v:Vo} {L a:Int} (h:B5 v L=a) (ha:a≠0): []=C8 v L∧a=B5 v L:=⟨by rw [C8,h,if_pos ha],h.symm⟩
theorem Aj6 {v:Vo} {L:Int} (h:B5 v L=0) (hw:v.whole) (h1:(v.evs.length:Int)=1): [L]=C8 v L∧0=B5 v L:=⟨by rw [C8,h,if_neg (by decide),if_pos ⟨hw,by omega⟩],h.symm⟩
theorem Ahl (v:Vo) (L:Int) (hE:Evs v.evs):XC Tryz.prog 71 [.agg (Vo.c v), .v (.int .i64 L)] (fun r=>r= .tup [.sl 1 (Bu (C8 v L)),dI (B5 v L)]):=by
 refine Ap Adw Tryz.func71 R R lb<|zr<|XL.step R (Ay 2 (l:= [.d (.sl 13 (v.evs.map Ev.c)), .d (.sl 4 (v.tups.map Tp.c))]) R R (by kernel_rfl))<|za R R<|za R R<|zn<|zs<|Ag<|zr<|zm R R<|zp (At R R R)<|zm R R<|?_
 refine XL.dec 10 R (fun g10=> ?_) (fun g10=> ?_)
 refine zk 2 R<|zq R R R<|za R R<|zn<|Ao (by kernel_rfl) R<|zr<|za R R<|za R R<|zn<|zt<|?_
 exact Bs R (RV.nil (sz:=1) R R) (RV.tmp R R) (r2 (rSl (Rk (v:=v) (by omega)).1) (rI (Rk (v:=v) (by omega)).2))
 refine zm R R<|zp (A6 R R R)<|zq R R R<|za R R<|zn<|?_
 refine zd R (fun c7=> ?_) (fun c7=> ?_)
 refine zr<|za R R<|za R R<|zn<|zt<|?_
 exact Bs R (RV.nil (sz:=1) R R) (RV.tmp R R) (r2 (rSl (Rk (v:=v) (by omega)).1) (rI (Rk (v:=v) (by omega)).2))
 refine zr<|zp (Aa R R A0)<|zp (Ab R R Bl R R)<|XL.len R R R Tryz.underlying22 fun hl17=>zp (A6 R R R)<|za R R<|zn<|?_
 refine zd R (fun c14=> ?_) (fun c14=> ?_)
 refine zr<|za R R<|za R R<|zn<|zt<|?_
 exact Bs R (RV.nil (sz:=1) R R) (RV.tmp R R) (r2 (rSl (Ahm g10 c7 c14).1) (rI (Ahm g10 c7 c14).2))
 refine zi<|zs<|zr<|zp (Ad (s':= .d (.agg (Vo.c v))) (Ae (Ac R R Bg R lb)) (by kernel_rfl))<|XL.call1 R R (Ak6 _) R<|zm R R<|?_
 refine XL.dec 21 R (fun g21=> ?_) (fun g21=> ?_)
 refine zp (Aa R R A0)<|zp (Ab R R Bl R R)<|XL.len R R R Tryz.underlying22 fun hl24=>zp (Az R R R)<|zq R R R<|zn<|?_
 refine zd R (fun c26=> ?_) (fun c26=> ?_)
 refine zs<|zs<|?_
 obtain ⟨e,hxe⟩:∃e,v.evs[0]? =some e:=As (by omega)
 have he:=hE e (List.mem_of_getElem? hxe)
 have hle:=Xt (L:=L) g10 c7 c14 g21 c26 hxe
 refine Af (by kernel_rfl)<|zp (Aa R R A0)<|zp (Ab R R Bl R R)<|zp (Aj (k:=0) R R R Cv (hxe))<|zp (Ad (s':= .d (.agg (Ev.c e))) (Ar R R A1 lb) (by kernel_rfl))<|XL.call1 R R (Qz _ (by assumption)) R<|za R R<|znr<|zm R R<|zp (Bc R R R)<|zn<|?_
 refine zd R (fun c33=> ?_) (fun c33=> ?_)
 refine zr<|zm R R<|za R R<|za R R<|zn<|zt<|?_
 exact Bs R (RV.nil (sz:=1) R R) (RV.tmp R R) (r2 (rSl (Uh (by rw [hle,if_pos c33]) c33).1) (rI (Uh (by rw [hle,if_pos c33]) c33).2))
 refine zi<|zs<|zr<|zp (Aa R R B0)<|zp (Ab R R Bz R R)<|XL.len R R R Tryz.underlying23 fun hl37=>zp (A6 R R R)<|zn<|?_
 refine zd R (fun c38=> ?_) (fun c38=> ?_)
 refine zr<|za R R<|za R R<|zn<|zt<|?_
 exact Bs R (RV.nil (sz:=1) R R) (RV.tmp R R) (r2 (rSl (Uh (a:=21) (by rw [hle,if_neg c33,if_pos (by omega)]) (by decide)).1) (rI (Uh (a:=21) (by rw [hle,if_neg c33,if_pos (by omega)]) (by decide)).2))
 refine zi<|zr<|zm R R<|XL.step R (Bi 40 R Tryz.underlying64 C0 Eu R R (by omega) (by omega))<|zp (Aq R (by conv=>lhs;whnf))<|?_
 refine za R R<|zn<|zt<|Bj (i:=40) R<|?_
 exact Bs R (RV.tmp R R) (RV.tmp R R) (r2 (rSl (l:= [L]) (g:=iv) (Aj6 (by rw [hle,if_neg c33,if_neg (by omega)]) g21 c26).1) (rI (Aj6 (by rw [hle,if_neg c33,if_neg (by omega)]) g21 c26).2))
 refine zi<|zr<|zp (Ad (s':= .d (.agg (Vo.c v))) (Ae (Ac R R Bg R lb)) (by kernel_rfl))<|XL.call1 R R (Zf _ (by assumption) (by omega)) R<|zp (Bh R R R)<|zp (Bh R R R)<|za R R<|za R R<|zn<|zt<|?_
 exact Bs R (RV.tmp R R) (RV.tmp R R) (r2 (rSl (Ug g10 c7 c14 (fun h=>c26 h.2)).1) (rI (Ug g10 c7 c14 (fun h=>c26 h.2)).2))
 refine zk 4 R<|zq R R R<|zn<|A3 (by kernel_rfl) R<|zi<|zr<|zp (Ad (s':= .d (.agg (Vo.c v))) (Ae (Ac R R Bg R lb)) (by kernel_rfl))<|XL.call1 R R (Zf _ (by assumption) (by omega)) R<|zp (Bh R R R)<|zp (Bh R R R)<|za R R<|za R R<|zn<|zt<|?_
 exact Bs R (RV.tmp R R) (RV.tmp R R) (r2 (rSl (Ug g10 c7 c14 (fun h=>g21 h.1)).1) (rI (Ug g10 c7 c14 (fun h=>g21 h.1)).2))
end Go.Proofs.YtcihalbakenleaaGreat
