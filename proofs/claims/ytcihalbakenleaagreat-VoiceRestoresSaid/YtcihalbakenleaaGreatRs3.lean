/- Part 3 of what the statements need: lemmas and walks. -/
import Derived.Laws.StructEq
import Derived.Test.YtcihalbakenleaaGreatRs2
set_option linter.unusedVariables false
set_option linter.unusedSimpArgs false
set_option linter.unusedSectionVars false
set_option maxRecDepth 20000
set_option maxHeartbeats 8000000
namespace Go.Proofs.YtcihalbakenleaaGreat
open Go.RowKit
section
variable {P:Program} {n:Nat} {f:Fr} {h:Xh}
theorem RV.cells {a t m i:Nat} {l:List S} {ds:List D} (ha:Nat.blt a n=true) (hf:f a= .ptr i 0 0) (hi:h i=some (.box l)) (hs:aggB P t m=true) (hm:m≤l.length) (hd:Jn (l.take m)=some ds):RV P n f h (.cell a t) (.agg ds):=fun E H β act w hsim hfv=>by
 have g:=hfv.slot a (Gj ha)
 rw [hf] at g
 obtain ⟨L,h1,h2⟩:=Gh g
 rw [Nat.zero_mul,Nat.zero_add] at h2
 have hp : Bf P ⟨none, .load t (.tmp 0), t, "", #[], none⟩ (fun _ => .ptr i 0 0) h (.agg ((l.drop 0).take m)) := Ad rfl rfl hs hi (by omega)
 obtain ⟨u,r1,r2⟩:=hp E H β (fun _=>act.tmps.getD a undef) w hsim (fun x _=>by rw [h2];have:=VS.ptr (H:=H) 0 0 h1;rw [Nat.zero_mul,Nat.zero_add] at this;exact this)
 rw [If rfl h2] at r1
 refine ⟨u, ?_, ?_⟩
 ·unfold Tq
  simp only [Sem.run_bind,h2,asAddr,Sem.run_pure,Result.andThen_ok]
  generalize (loadVar t ⟨L.b,0,none⟩).run P w=r at r1
  cases r with
  |ok v w'=>simp only [Result.andThen_ok,Result.ok.injEq,Next.value.injEq] at r1;obtain ⟨rfl,rfl⟩:=r1;rfl
  |halt x w'=>simp [Result.andThen] at r1
 ·have:=r2.norm
  rw [List.drop_zero] at this
  unfold norm at this
  simp only [hd] at this
  exact D5 this
end
theorem Al {α:Type} {n:Nat} {I:α→Prop} {F:α→Fr} {G:α→Xh} {μ:α→Nat} {x:α} {K:Do} {f:Fr} {h:Xh} (x':α) (h1:I x') (h2:μ x'<μ x) (h3:FSub n f (F x')) (h4:HSub h (G x')):
  Nq (fun f' h'=>∃x',I x'∧μ x'<μ x∧FSub n f' (F x')∧HSub h' (G x')) K .normal f h:=⟨x',h1,h2,h3,h4⟩
section
variable {P:Program} {n:Nat} {ops:Array Oper} {rest:List Oper} {K:Do} {f:Fr} {h:Xh} {o:Oper} {F:FuncId} {ds:List D} {args:Array Operand} {tys:Array TypeId} {r:D}
theorem XL.call1 (ho:o.op= .call {callee:= .value (.func F),args:=args,argTypes:=tys}) (hw:Cc ops f n o.guard=some true) (hx:XC P F ds (fun d=>d=r))
  (ha:args.toList.map (ev f)=ds.map S.d) (hr:XL P n ops rest K (Bv f o.dst (.d r)) h):XL P n ops (o::rest) K f h:=
 XL.call ho hw hx ha (by rintro _ rfl;exact hr)
theorem XL.callv1 {x:Operand} {ps cs:List D} (ho:o.op= .call {callee:= .value x,args:=args,argTypes:=tys}) (hw:Cc ops f n o.guard=some true) (hxe:ev f x= .d (.fn F ps cs))
  (hx:XC P F (ps++ds++cs) (fun d=>d=r)) (ha:args.toList.map (ev f)=ds.map S.d) (hr:XL P n ops rest K (Bv f o.dst (.d r)) h):XL P n ops (o::rest) K f h:=
 XL.callv ho hw hxe hx ha (by rintro _ rfl;exact hr)
end
section
variable {P:Program} {o:Oper} {e:Operand→S} {h:Xh}
theorem Bo {t:TypeId} {x:Operand} {p:Prop} [Decidable p] (ho:o.op= .unOp .not t x) (hx:e x= .d (.v (.bool (decide p)))):Bf P o e h (.d (.v (.bool (decide (¬p))))):=by
 have:=Cu (P:=P) (h:=h) ho hx
 rwa [←decide_not] at this
def Mz:List D→Option (List Value)
 | []=>some []
 | .v x::l=>match Mz l with|some vs=>some (x::vs)|none=>none
 |_::_=>none
theorem Ru:∀{l:List D} {vs:List Value},Mz l=some vs→l=vs.map D.v
 | [],vs,h=>by cases h;rfl
 | .v x::l,vs,h=>by
  unfold Mz at h
  cases hd:Mz l with
  |none=>rw [hd] at h;cases h
  |some vs'=>rw [hd] at h;cases h;rw [List.map_cons, ←Ru hd]
theorem Vc {H:Hp} {u:Value} {l:List D} {vs:List Value} (hv:VD H u (.agg l)) (hp:Mz l=some vs):u= .agg vs.toArray:=by
 obtain ⟨cs,rfl,h1,h2⟩:=Tb hv
 have:=Ru hp
 subst this
 congr 1
 apply Array.ext'
 refine List.ext_getElem? fun i=> ?_
 by_cases hi:i<cs.size
 ·have hc:cs[i]? =some cs[i]:=Array.getElem?_eq_getElem hi
  rw [List.length_map] at h1
  have hl:vs[i]? =some vs[i]:=List.getElem?_eq_getElem (by omega)
  have:=R9 (h2 i _ (.v vs[i]) hc (by rw [List.getElem?_map,hl];rfl))
  rw [Array.getElem?_toList,hc,this]
  simp [hl]
 ·rw [List.length_map] at h1
  rw [List.getElem?_eq_none (by simpa using hi),List.getElem?_eq_none (by simp;omega)]
theorem Fy {op:BinOp} {t t':TypeId} {x y:Operand} {la lb:List D} {va vb:List Value} {r:Value} (ho:o.op= .binOp op t x y t') (hx:e x= .d (.agg la)) (hy:e y= .d (.agg lb)) (ha:Mz la=some va) (hb:Mz lb=some vb)
  (hg:P.eqGuardType P.depth t=false) (hr:∀w,(binOp op t (.agg va.toArray) (.agg vb.toArray)).run P w= .ok r w):Bf P o e h (.d (.v r)):=fun E H β ρ w _ hop=>by
 have g1:=hop x (by rw [ho];simp [Op.operands])
 have g2:=hop y (by rw [ho];simp [Op.operands])
 rw [hx] at g1
 rw [hy] at g2
 refine ⟨r, ?_, .d (.v _)⟩
 unfold execOp
 simp only [ho,Vc (D5 g1) ha,Vc (D5 g2) hb,Sem.run_bind,run_eqGuard_agg w op t x y va.toArray vb.toArray hg,Result.andThen_ok,hr,Sem.run_pure]
theorem F9 {t m k i off:Nat} {x y:Operand} {el:TypeId} {ik:IntKind} (ho:o.op= .indexAddr t x y) (hx:e x= .ptr i 0 off) (hy:e y= .d (.v (.int ik k))) (hu:P.underlying t=some (.array m el)) (hz:sizeB P el 1=true) (hk:k<m):Bf P o e h (.ptr i 0 (off+k)):=fun E H β ρ w _ hop=>by
 have g:=hop x (by rw [ho];simp [Op.operands])
 have g2:=hop y (by rw [ho];simp [Op.operands])
 rw [hx] at g
 rw [hy] at g2
 obtain ⟨L,h1,h2⟩:=Gh g
 have hlt:(0:Int)≤(k:Int)∧(k:Int)<(m:Int):=⟨by omega,by omega⟩
 refine ⟨.pointer (some ⟨L.b,0*L.sz+(off+k),none⟩), ?_, .ptr 0 (off+k) h1⟩
 unfold execOp
 simp only [ho,h2,Dy g2,Instr.indexAt,asIntOf,Instr.sureAddr,Sem.run_bind,run_underlying hu,Result.andThen_ok,Sem.run_pure,hlt,and_self,if_true,sizeB.run hz,Int.toNat_natCast,Nat.mul_one]
 rw [Go.WideShapes.add_plain,Nat.add_assoc]
end
end Go.Proofs.YtcihalbakenleaaGreat
namespace Go.Proofs.YtcihalbakenleaaGreat
open Go.RowKit
def iv (k:Int):List D:= [.v (.int .i64 k)]
def B4 (l:List Int):List (List D):=l.map iv
structure Pit where
 step:Int
 alter:Int
 oct:Int
 deriving DecidableEq
def Pit.c (p:Pit):List D:= [.v (.int .i64 p.step), .v (.int .i64 p.alter), .v (.int .i64 p.oct)]
structure Hd where
 p:Pit
 tied:Bool
 sh:Int
 deriving DecidableEq
def Hd.c (h:Hd):List D:= [.v (.int .i64 h.p.step), .v (.int .i64 h.p.alter), .v (.int .i64 h.p.oct), .v (.bool h.tied), .v (.int .i64 h.sh)]
structure Gr where
 p:Pit
 log:Int
 slash:Bool
 deriving DecidableEq
def Gr.c (g:Gr):List D:= [.v (.int .i64 g.p.step), .v (.int .i64 g.p.alter), .v (.int .i64 g.p.oct), .v (.int .i64 g.log), .v (.bool g.slash)]
structure Sy where
 text:List UInt8
 link:Int
 deriving DecidableEq
def Sy.c (s:Sy):List D:= [.v (.string ⟨s.text.toArray⟩), .v (.int .i64 s.link)]
structure Val where
 log:Int
 dots:Int
 deriving DecidableEq
def Val.c (v:Val):List D:= [.v (.int .i64 v.log), .v (.int .i64 v.dots)]
structure Ev where
 site:Int
 num:Int
 kind:Int
 v:Val
 heads:List Hd
 graces:List Gr
 art:Int
 orn:Int
 dyn:Int
 lyr:List Sy
 stem:Int
 beam:Int
def hdsD (l:List Hd):D:= .sl 5 (l.map Hd.c)
def grsD (l:List Gr):D:= .sl 5 (l.map Gr.c)
def sysD (l:List Sy):D:= .sl 2 (l.map Sy.c)
def Ev.c (e : Ev) : List D := [.v (.int .i64 e.site), .v (.int .i64 e.num), .v (.int .i64 e.kind), .v (.int .i64 e.v.log), .v (.int .i64 e.v.dots), .sl 5 (e.heads.map Hd.c), .sl 5 (e.graces.map Gr.c),
 .v (.int .i64 e.art), .v (.int .i64 e.orn), .v (.int .i64 e.dyn), .sl 2 (e.lyr.map Sy.c), .v (.int .i64 e.stem), .v (.int .i64 e.beam)]
structure Tp where
 first:Int
 count:Int
 actual:Int
 normal:Int
 deriving DecidableEq
def Tp.c (t:Tp):List D:= [.v (.int .i64 t.first), .v (.int .i64 t.count), .v (.int .i64 t.actual), .v (.int .i64 t.normal)]
structure Vo where
 evs:List Ev
 tups:List Tp
def Vo.c (v:Vo):List D:= [.sl 13 (v.evs.map Ev.c), .sl 4 (v.tups.map Tp.c)]
structure Me where
 count:Int
 unit:Int
 g0:Int
 g1:Int
 g2:Int
 g3:Int
 g4:Int
 g5:Int
 deriving DecidableEq
def Me.gs (m:Me):List Int:= [m.g0,m.g1,m.g2,m.g3,m.g4,m.g5]
def Me.c (m:Me):List D:= [.v (.int .i64 m.count), .v (.int .i64 m.unit), .v (.int .i64 m.g0), .v (.int .i64 m.g1), .v (.int .i64 m.g2), .v (.int .i64 m.g3), .v (.int .i64 m.g4), .v (.int .i64 m.g5)]
structure Pl where
 m:Me
 off:Int
 len:Int
def Pl.c (p:Pl):List D:= [.v (.int .i64 p.m.count), .v (.int .i64 p.m.unit), .v (.int .i64 p.m.g0), .v (.int .i64 p.m.g1), .v (.int .i64 p.m.g2), .v (.int .i64 p.m.g3), .v (.int .i64 p.m.g4), .v (.int .i64 p.m.g5), .v (.int .i64 p.off), .v (.int .i64 p.len)]
theorem Cj {α:Type} {l:List α} {k:Nat} {x:α} (h:l[k]? =some x):l.drop k=x::l.drop (k+1):=by
 obtain ⟨hk,e⟩:=List.getElem?_eq_some_iff.1 h
 rw [←e];exact List.drop_eq_getElem_cons hk
theorem Lh (l:List UInt8):(ByteArray.mk l.toArray).toList=l:=by rw [ByteArray.toList_eq]
theorem Oy {l:List UInt8} {k:Nat} {b:UInt8} (h:l[k]? =some b):(ByteArray.mk l.toArray)[k]? =some b:=by
 obtain ⟨hk,e⟩:=List.getElem?_eq_some_iff.1 h
 have hk':k<(ByteArray.mk l.toArray).size:=by simpa [ByteArray.size] using hk
 rw [getElem?_pos (ByteArray.mk l.toArray) k hk', ←e]
 rfl
theorem Cn {α:Type} {f:α→List D} {l:List α} {k:Nat} {x:α} (h:l[k]? =some x):(l.map f)[k]? =some (f x):=by rw [List.getElem?_map,h];rfl
theorem Ap {α:Type} {l:List α} {k:Nat} (h:k<l.length):∃x,l[k]? =some x:=⟨_,List.getElem?_eq_getElem h⟩
abbrev dI (n:Int):D:= .v (.int .i64 n)
abbrev dB (b:Bool):D:= .v (.bool b)
def I64 (n:Int):Prop:= -9223372036854775808≤n∧n≤9223372036854775807
end Go.Proofs.YtcihalbakenleaaGreat
namespace Go.Proofs.YtcihalbakenleaaGreat
open Go.RowKit
theorem Df:sizeB Tryz.prog 3 1=true:=by kernel_rfl
theorem Gt:zeroB Tryz.prog 3 (.int .i64 0):=by unfold zeroB;kernel_rfl
theorem Ah:scB Tryz.prog 3=true:=by kernel_rfl
theorem P3:sizeB Tryz.prog 4 1=true:=by kernel_rfl
theorem Jv:scB Tryz.prog 4=true:=by kernel_rfl
theorem Kx:scB Tryz.prog 9=true:=by kernel_rfl
theorem Alw:sizeB Tryz.prog 22 1=true:=by kernel_rfl
theorem Amg:zeroB Tryz.prog 22 (.slice none 0 0):=by unfold zeroB;kernel_rfl
theorem Br:scB Tryz.prog 22=true:=by kernel_rfl
theorem B7:elB Tryz.prog 22 13=true:=by kernel_rfl
theorem Jt:ElemTy Tryz.prog 22 60 13 152:=ElemTy.of (z:=(.agg #[.int .i64 0, .int .i64 0, .int .i64 0, .int .i64 0, .int .i64 0, .slice none 0 0, .slice none 0 0, .int .i64 0, .int .i64 0, .int .i64 0, .slice none 0 0, .int .i64 0, .int .i64 0])) Tryz.underlying22 (by kernel_rfl) rfl (by omega)
theorem H9:sizeB Tryz.prog 23 1=true:=by kernel_rfl
theorem Amf:zeroB Tryz.prog 23 (.slice none 0 0):=by unfold zeroB;kernel_rfl
theorem B0:scB Tryz.prog 23=true:=by kernel_rfl
theorem Ex:elB Tryz.prog 23 4=true:=by kernel_rfl
theorem Hs:ElemTy Tryz.prog 23 102 4 32:=ElemTy.of (z:=(.agg #[.int .i64 0, .int .i64 0, .int .i64 0, .int .i64 0])) Tryz.underlying23 (by kernel_rfl) rfl (by omega)
theorem Bu:sizeB Tryz.prog 25 2=true:=by kernel_rfl
theorem Ba:zeroB Tryz.prog 25 (.agg #[.slice none 0 0, .slice none 0 0]):=by unfold zeroB;kernel_rfl
theorem Au:aggB Tryz.prog 25 2=true:=by kernel_rfl
theorem Cg:Lp Tryz.prog 25 [(0,1),(1,1)]=true:=by kernel_rfl
theorem A1:C0 Tryz.prog 25 0 0=true:=by kernel_rfl
theorem B3:C0 Tryz.prog 25 1 1=true:=by kernel_rfl
theorem Ad3:zeroB Tryz.prog 26 (.agg #[.int .i64 0, .int .i64 0, .int .i64 0, .int .i64 0, .int .i64 0, .int .i64 0]):=by unfold zeroB;kernel_rfl
theorem Abt:aggB Tryz.prog 26 6=true:=by kernel_rfl
theorem Ame:zeroB Tryz.prog 28 (.agg #[.int .i64 0, .int .i64 0, .int .i64 0, .int .i64 0, .int .i64 0, .int .i64 0, .int .i64 0, .int .i64 0]):=by unfold zeroB;kernel_rfl
theorem Ci:aggB Tryz.prog 28 8=true:=by kernel_rfl
theorem Ao0:Lp Tryz.prog 28 [(0,1),(1,1),(2,6)]=true:=by kernel_rfl
theorem Gz:C0 Tryz.prog 28 0 0=true:=by kernel_rfl
theorem J1:C0 Tryz.prog 28 1 1=true:=by kernel_rfl
theorem M6:C0 Tryz.prog 28 2 2=true:=by kernel_rfl
theorem Aq0:sizeB Tryz.prog 30 10=true:=by kernel_rfl
theorem Ad2:zeroB Tryz.prog 30 (.agg #[.int .i64 0, .int .i64 0, .int .i64 0, .int .i64 0, .int .i64 0, .int .i64 0, .int .i64 0, .int .i64 0, .int .i64 0, .int .i64 0]):=by unfold zeroB;kernel_rfl
theorem Fu:aggB Tryz.prog 30 10=true:=by kernel_rfl
theorem Aoz:Lp Tryz.prog 30 [(0,8),(8,1),(9,1)]=true:=by kernel_rfl
theorem Pm:C0 Tryz.prog 30 0 0=true:=by kernel_rfl
theorem Hh:C0 Tryz.prog 30 1 8=true:=by kernel_rfl
theorem Hg:C0 Tryz.prog 30 2 9=true:=by kernel_rfl
theorem Nd:sizeB Tryz.prog 33 1=true:=by kernel_rfl
theorem J4:zeroB Tryz.prog 33 (.int .i64 0):=by unfold zeroB;kernel_rfl
theorem Aq1:scB Tryz.prog 33=true:=by kernel_rfl
theorem Ala:C0 Tryz.prog 39 0 0=true:=by kernel_rfl
theorem Y5:C0 Tryz.prog 39 1 8=true:=by kernel_rfl
theorem Y4:C0 Tryz.prog 39 2 9=true:=by kernel_rfl
theorem Ly:sizeB Tryz.prog 48 1=true:=by kernel_rfl
theorem Cx:scB Tryz.prog 48=true:=by kernel_rfl
theorem Gd:elB Tryz.prog 48 5=true:=by kernel_rfl
theorem Aqd:ElemTy Tryz.prog 48 91 5 40:=ElemTy.of (z:=(.agg #[.int .i64 0, .int .i64 0, .int .i64 0, .bool false, .int .i64 0])) Tryz.underlying48 (by kernel_rfl) rfl (by omega)
theorem Aqz:sizeB Tryz.prog 54 2=true:=by kernel_rfl
theorem Amd:zeroB Tryz.prog 54 (.agg #[.int .i64 0, .int .i64 0]):=by unfold zeroB;kernel_rfl
theorem Ju:aggB Tryz.prog 54 2=true:=by kernel_rfl
theorem Aoy:Lp Tryz.prog 54 [(0,1),(1,1)]=true:=by kernel_rfl
theorem Y3:C0 Tryz.prog 54 0 0=true:=by kernel_rfl
theorem Y2:C0 Tryz.prog 54 1 1=true:=by kernel_rfl
theorem F3:sizeB Tryz.prog 56 2=true:=by kernel_rfl
theorem D8:zeroB Tryz.prog 56 (.agg #[.int .i64 0, .int .i64 0]):=by unfold zeroB;kernel_rfl
theorem Da:aggB Tryz.prog 56 2=true:=by kernel_rfl
theorem Kf:Lp Tryz.prog 56 [(0,1),(1,1)]=true:=by kernel_rfl
theorem M5:C0 Tryz.prog 56 0 0=true:=by kernel_rfl
theorem J0:C0 Tryz.prog 56 1 1=true:=by kernel_rfl
theorem Alv:sizeB Tryz.prog 57 1=true:=by kernel_rfl
theorem It:scB Tryz.prog 57=true:=by kernel_rfl
theorem Po:elB Tryz.prog 57 5=true:=by kernel_rfl
theorem Aqc:ElemTy Tryz.prog 57 138 5 40:=ElemTy.of (z:=(.agg #[.int .i64 0, .int .i64 0, .int .i64 0, .int .i64 0, .bool false])) Tryz.underlying57 (by kernel_rfl) rfl (by omega)
theorem Alu:sizeB Tryz.prog 58 1=true:=by kernel_rfl
theorem Is:scB Tryz.prog 58=true:=by kernel_rfl
theorem N0:elB Tryz.prog 58 2=true:=by kernel_rfl
theorem Aqb:ElemTy Tryz.prog 58 140 2 24:=ElemTy.of (z:=(.agg #[.string ⟨#[]⟩, .int .i64 0])) Tryz.underlying58 (by kernel_rfl) rfl (by omega)
theorem Cd:sizeB Tryz.prog 60 13=true:=by kernel_rfl
theorem Cm:zeroB Tryz.prog 60 (.agg #[.int .i64 0, .int .i64 0, .int .i64 0, .int .i64 0, .int .i64 0, .slice none 0 0, .slice none 0 0, .int .i64 0, .int .i64 0, .int .i64 0, .slice none 0 0, .int .i64 0, .int .i64 0]):=by unfold zeroB;kernel_rfl
theorem Ax:aggB Tryz.prog 60 13=true:=by kernel_rfl
theorem Oh:Lp Tryz.prog 60 [(0,2),(2,1),(3,2),(5,1),(6,1),(7,1),(8,1),(9,1),(10,1),(11,1),(12,1)]=true:=by kernel_rfl
theorem Ey:C0 Tryz.prog 60 0 0=true:=by kernel_rfl
theorem Bn:C0 Tryz.prog 60 1 2=true:=by kernel_rfl
theorem Cz:C0 Tryz.prog 60 2 3=true:=by kernel_rfl
theorem Bi:C0 Tryz.prog 60 3 5=true:=by kernel_rfl
theorem Eg:C0 Tryz.prog 60 4 6=true:=by kernel_rfl
theorem Cy:C0 Tryz.prog 60 5 7=true:=by kernel_rfl
theorem Gf:C0 Tryz.prog 60 6 8=true:=by kernel_rfl
theorem Ef:C0 Tryz.prog 60 7 9=true:=by kernel_rfl
theorem Ee:C0 Tryz.prog 60 8 10=true:=by kernel_rfl
theorem Ea:C0 Tryz.prog 60 9 11=true:=by kernel_rfl
theorem Fl:C0 Tryz.prog 60 10 12=true:=by kernel_rfl
theorem C9:elB Tryz.prog 64 1=true:=by kernel_rfl
theorem On:ElemTy Tryz.prog 64 3 1 8:=ElemTy.of (z:=(.int .i64 0)) Tryz.underlying64 (by kernel_rfl) rfl (by omega)
theorem Amc:zeroB Tryz.prog 89 (.agg #[.int .i64 0, .int .i64 0, .int .i64 0]):=by unfold zeroB;kernel_rfl
theorem Eq:aggB Tryz.prog 89 3=true:=by kernel_rfl
theorem Aox:Lp Tryz.prog 89 [(0,1),(1,1),(2,1)]=true:=by kernel_rfl
theorem K9:C0 Tryz.prog 89 0 0=true:=by kernel_rfl
theorem K8:C0 Tryz.prog 89 1 1=true:=by kernel_rfl
theorem K7:C0 Tryz.prog 89 2 2=true:=by kernel_rfl
theorem Tk:sizeB Tryz.prog 91 5=true:=by kernel_rfl
theorem Md:zeroB Tryz.prog 91 (.agg #[.int .i64 0, .int .i64 0, .int .i64 0, .bool false, .int .i64 0]):=by unfold zeroB;kernel_rfl
theorem Kr:aggB Tryz.prog 91 5=true:=by kernel_rfl
theorem Aow:Lp Tryz.prog 91 [(0,3),(3,1),(4,1)]=true:=by kernel_rfl
theorem Gy:C0 Tryz.prog 91 0 0=true:=by kernel_rfl
theorem Dw:C0 Tryz.prog 91 1 3=true:=by kernel_rfl
theorem S2:C0 Tryz.prog 91 2 4=true:=by kernel_rfl
theorem Kn:elB Tryz.prog 98 4=true:=by kernel_rfl
theorem Aqa:ElemTy Tryz.prog 98 135 4 32:=ElemTy.of (z:=(.agg #[.int .i64 0, .int .i64 0, .int .i64 0, .int .i64 0])) Tryz.underlying98 (by kernel_rfl) rfl (by omega)
theorem Fs:sizeB Tryz.prog 102 4=true:=by kernel_rfl
theorem Dx:zeroB Tryz.prog 102 (.agg #[.int .i64 0, .int .i64 0, .int .i64 0, .int .i64 0]):=by unfold zeroB;kernel_rfl
theorem B8:aggB Tryz.prog 102 4=true:=by kernel_rfl
theorem By:C0 Tryz.prog 102 0 0=true:=by kernel_rfl
theorem Dg:C0 Tryz.prog 102 1 1=true:=by kernel_rfl
theorem Lm:C0 Tryz.prog 102 2 2=true:=by kernel_rfl
theorem Ny:C0 Tryz.prog 102 3 3=true:=by kernel_rfl
theorem Aqf:elB Tryz.prog 106 2=true:=by kernel_rfl
theorem Mk:ElemTy Tryz.prog 106 56 2 16:=ElemTy.of (z:=(.agg #[.int .i64 0, .int .i64 0])) Tryz.underlying106 (by kernel_rfl) rfl (by omega)
theorem Ahf:sizeB Tryz.prog 135 4=true:=by kernel_rfl
theorem R8:zeroB Tryz.prog 135 (.agg #[.int .i64 0, .int .i64 0, .int .i64 0, .int .i64 0]):=by unfold zeroB;kernel_rfl
theorem Gs:aggB Tryz.prog 135 4=true:=by kernel_rfl
theorem Am1:Lp Tryz.prog 135 [(0,1),(1,1),(2,1),(3,1)]=true:=by kernel_rfl
theorem Fm:C0 Tryz.prog 135 0 0=true:=by kernel_rfl
theorem H3:C0 Tryz.prog 135 1 1=true:=by kernel_rfl
theorem Ll:C0 Tryz.prog 135 2 2=true:=by kernel_rfl
theorem Nx:C0 Tryz.prog 135 3 3=true:=by kernel_rfl
theorem Ahe:sizeB Tryz.prog 138 5=true:=by kernel_rfl
theorem Xg:zeroB Tryz.prog 138 (.agg #[.int .i64 0, .int .i64 0, .int .i64 0, .int .i64 0, .bool false]):=by unfold zeroB;kernel_rfl
theorem Ou:aggB Tryz.prog 138 5=true:=by kernel_rfl
theorem Wo:C0 Tryz.prog 138 0 0=true:=by kernel_rfl
theorem Qv:C0 Tryz.prog 138 1 3=true:=by kernel_rfl
theorem Xu:sizeB Tryz.prog 140 2=true:=by kernel_rfl
theorem Ov:zeroB Tryz.prog 140 (.agg #[.string ⟨#[]⟩, .int .i64 0]):=by unfold zeroB;kernel_rfl
theorem Iq:aggB Tryz.prog 140 2=true:=by kernel_rfl
theorem Am0:Lp Tryz.prog 140 [(0,1),(1,1)]=true:=by kernel_rfl
theorem Ga:C0 Tryz.prog 140 0 0=true:=by kernel_rfl
theorem Ka:C0 Tryz.prog 140 1 1=true:=by kernel_rfl
theorem Ahd:sizeB Tryz.prog 167 1=true:=by kernel_rfl
theorem Xf:zeroB Tryz.prog 167 (.pointer none):=by unfold zeroB;kernel_rfl
theorem Hq:scB Tryz.prog 167=true:=by kernel_rfl
theorem Ai8:elB Tryz.prog 177 1=true:=by kernel_rfl
theorem Aqe:elB Tryz.prog 180 1=true:=by kernel_rfl
theorem Aot:sizeB Tryz.prog 210 7=true:=by kernel_rfl
theorem Xe:zeroB Tryz.prog 210 (.agg #[.int .i64 0, .int .i64 0, .int .i64 0, .int .i64 0, .int .i64 0, .int .i64 0, .int .i64 0]):=by unfold zeroB;kernel_rfl
theorem Aok:aggB Tryz.prog 210 7=true:=by kernel_rfl
theorem Ad1:Callable Tryz.prog 11:=⟨_,Tryz.func11,rfl,by decide⟩
theorem Ad0:Callable Tryz.prog 13:=⟨_,Tryz.func13,rfl,by decide⟩
theorem Adz:Callable Tryz.prog 14:=⟨_,Tryz.func14,rfl,by decide⟩
theorem Ady:Callable Tryz.prog 15:=⟨_,Tryz.func15,rfl,by decide⟩
theorem Adx:Callable Tryz.prog 16:=⟨_,Tryz.func16,rfl,by decide⟩
theorem Adw:Callable Tryz.prog 18:=⟨_,Tryz.func18,rfl,by decide⟩
theorem Adv:Callable Tryz.prog 19:=⟨_,Tryz.func19,rfl,by decide⟩
theorem Adu:Callable Tryz.prog 20:=⟨_,Tryz.func20,rfl,by decide⟩
theorem Adt:Callable Tryz.prog 22:=⟨_,Tryz.func22,rfl,by decide⟩
theorem Ads:Callable Tryz.prog 27:=⟨_,Tryz.func27,rfl,by decide⟩
theorem Adr:Callable Tryz.prog 28:=⟨_,Tryz.func28,rfl,by decide⟩
theorem Adq:Callable Tryz.prog 30:=⟨_,Tryz.func30,rfl,by decide⟩
theorem Adp:Callable Tryz.prog 32:=⟨_,Tryz.func32,rfl,by decide⟩
theorem Ado:Callable Tryz.prog 36:=⟨_,Tryz.func36,rfl,by decide⟩
theorem Adn:Callable Tryz.prog 38:=⟨_,Tryz.func38,rfl,by decide⟩
theorem Adm:Callable Tryz.prog 39:=⟨_,Tryz.func39,rfl,by decide⟩
theorem Adl:Callable Tryz.prog 41:=⟨_,Tryz.func41,rfl,by decide⟩
theorem Adk:Callable Tryz.prog 43:=⟨_,Tryz.func43,rfl,by decide⟩
theorem Adj:Callable Tryz.prog 46:=⟨_,Tryz.func46,rfl,by decide⟩
theorem Adi:Callable Tryz.prog 47:=⟨_,Tryz.func47,rfl,by decide⟩
theorem Adh:Callable Tryz.prog 48:=⟨_,Tryz.func48,rfl,by decide⟩
theorem Adg:Callable Tryz.prog 49:=⟨_,Tryz.func49,rfl,by decide⟩
theorem Adf:Callable Tryz.prog 55:=⟨_,Tryz.func55,rfl,by decide⟩
theorem Ade:Callable Tryz.prog 56:=⟨_,Tryz.func56,rfl,by decide⟩
theorem Add:Callable Tryz.prog 57:=⟨_,Tryz.func57,rfl,by decide⟩
theorem Adc:Callable Tryz.prog 58:=⟨_,Tryz.func58,rfl,by decide⟩
theorem Adb:Callable Tryz.prog 59:=⟨_,Tryz.func59,rfl,by decide⟩
theorem Ada:Callable Tryz.prog 60:=⟨_,Tryz.func60,rfl,by decide⟩
theorem Ac9:Callable Tryz.prog 61:=⟨_,Tryz.func61,rfl,by decide⟩
theorem Ac8:Callable Tryz.prog 62:=⟨_,Tryz.func62,rfl,by decide⟩
theorem R6:Callable Tryz.prog 63:=⟨_,Tryz.func63,rfl,by decide⟩
theorem Ac7:Callable Tryz.prog 64:=⟨_,Tryz.func64,rfl,by decide⟩
theorem Ac6:Callable Tryz.prog 65:=⟨_,Tryz.func65,rfl,by decide⟩
theorem Ac5:Callable Tryz.prog 68:=⟨_,Tryz.func68,rfl,by decide⟩
theorem Ac4:Callable Tryz.prog 69:=⟨_,Tryz.func69,rfl,by decide⟩
theorem Ac3:Callable Tryz.prog 70:=⟨_,Tryz.func70,rfl,by decide⟩
theorem Ac2:Callable Tryz.prog 71:=⟨_,Tryz.func71,rfl,by decide⟩
theorem Ac1:Callable Tryz.prog 72:=⟨_,Tryz.func72,rfl,by decide⟩
theorem Ac0:Callable Tryz.prog 73:=⟨_,Tryz.func73,rfl,by decide⟩
theorem Acz:Callable Tryz.prog 74:=⟨_,Tryz.func74,rfl,by decide⟩
theorem Acy:Callable Tryz.prog 75:=⟨_,Tryz.func75,rfl,by decide⟩
theorem Acx:Callable Tryz.prog 77:=⟨_,Tryz.func77,rfl,by decide⟩
theorem Acw:Callable Tryz.prog 78:=⟨_,Tryz.func78,rfl,by decide⟩
theorem Acv:Callable Tryz.prog 79:=⟨_,Tryz.func79,rfl,by decide⟩
theorem Acu:Callable Tryz.prog 80:=⟨_,Tryz.func80,rfl,by decide⟩
theorem Acs:Callable Tryz.prog 81:=⟨_,Tryz.func81,rfl,by decide⟩
theorem Acr:Callable Tryz.prog 82:=⟨_,Tryz.func82,rfl,by decide⟩
theorem Acq:Callable Tryz.prog 83:=⟨_,Tryz.func83,rfl,by decide⟩
theorem Acp:Callable Tryz.prog 84:=⟨_,Tryz.func84,rfl,by decide⟩
theorem Aco:Callable Tryz.prog 85:=⟨_,Tryz.func85,rfl,by decide⟩
theorem Acn:Callable Tryz.prog 87:=⟨_,Tryz.func87,rfl,by decide⟩
theorem Acm:Callable Tryz.prog 88:=⟨_,Tryz.func88,rfl,by decide⟩
theorem R5:Callable Tryz.prog 89:=⟨_,Tryz.func89,rfl,by decide⟩
theorem Acl:Callable Tryz.prog 91:=⟨_,Tryz.func91,rfl,by decide⟩
theorem Ack:Callable Tryz.prog 92:=⟨_,Tryz.func92,rfl,by decide⟩
theorem Acj:Callable Tryz.prog 93:=⟨_,Tryz.func93,rfl,by decide⟩
theorem Aci:Callable Tryz.prog 94:=⟨_,Tryz.func94,rfl,by decide⟩
theorem Ach:Callable Tryz.prog 95:=⟨_,Tryz.func95,rfl,by decide⟩
theorem Acg:Callable Tryz.prog 97:=⟨_,Tryz.func97,rfl,by decide⟩
theorem Acf:Callable Tryz.prog 98:=⟨_,Tryz.func98,rfl,by decide⟩
theorem Ace:Callable Tryz.prog 99:=⟨_,Tryz.func99,rfl,by decide⟩
theorem Abm:Callable Tryz.prog 100:=⟨_,Tryz.func100,rfl,by decide⟩
theorem Abl:Callable Tryz.prog 101:=⟨_,Tryz.func101,rfl,by decide⟩
theorem Abk:Callable Tryz.prog 102:=⟨_,Tryz.func102,rfl,by decide⟩
theorem Abj:Callable Tryz.prog 103:=⟨_,Tryz.func103,rfl,by decide⟩
theorem Abi:Callable Tryz.prog 104:=⟨_,Tryz.func104,rfl,by decide⟩
theorem Abh:Callable Tryz.prog 105:=⟨_,Tryz.func105,rfl,by decide⟩
theorem Abg:Callable Tryz.prog 106:=⟨_,Tryz.func106,rfl,by decide⟩
theorem Abf:Callable Tryz.prog 107:=⟨_,Tryz.func107,rfl,by decide⟩
theorem Abe:Callable Tryz.prog 108:=⟨_,Tryz.func108,rfl,by decide⟩
theorem Abd:Callable Tryz.prog 109:=⟨_,Tryz.func109,rfl,by decide⟩
theorem Abc:Callable Tryz.prog 112:=⟨_,Tryz.func112,rfl,by decide⟩
theorem Abb:Callable Tryz.prog 113:=⟨_,Tryz.func113,rfl,by decide⟩
theorem Aba:Callable Tryz.prog 114:=⟨_,Tryz.func114,rfl,by decide⟩
theorem Aa9:Callable Tryz.prog 115:=⟨_,Tryz.func115,rfl,by decide⟩
theorem Aa8:Callable Tryz.prog 116:=⟨_,Tryz.func116,rfl,by decide⟩
theorem Aa7:Callable Tryz.prog 117:=⟨_,Tryz.func117,rfl,by decide⟩
theorem Aa6:Callable Tryz.prog 118:=⟨_,Tryz.func118,rfl,by decide⟩
theorem Aa5:Callable Tryz.prog 119:=⟨_,Tryz.func119,rfl,by decide⟩
theorem Aa4:Callable Tryz.prog 120:=⟨_,Tryz.func120,rfl,by decide⟩
theorem Aa3:Callable Tryz.prog 121:=⟨_,Tryz.func121,rfl,by decide⟩
theorem Aa2:Callable Tryz.prog 122:=⟨_,Tryz.func122,rfl,by decide⟩
theorem Aa1:Callable Tryz.prog 123:=⟨_,Tryz.func123,rfl,by decide⟩
theorem Aa0:Callable Tryz.prog 127:=⟨_,Tryz.func127,rfl,by decide⟩
theorem Aaz:Callable Tryz.prog 128:=⟨_,Tryz.func128,rfl,by decide⟩
theorem Aay:Callable Tryz.prog 129:=⟨_,Tryz.func129,rfl,by decide⟩
theorem Q1:Callable Tryz.prog 130:=⟨_,Tryz.func130,rfl,by decide⟩
theorem Aax:Callable Tryz.prog 131:=⟨_,Tryz.func131,rfl,by decide⟩
theorem Aaw:Callable Tryz.prog 132:=⟨_,Tryz.func132,rfl,by decide⟩
theorem Aav:Callable Tryz.prog 133:=⟨_,Tryz.func133,rfl,by decide⟩
theorem Aau:Callable Tryz.prog 134:=⟨_,Tryz.func134,rfl,by decide⟩
theorem Aat:Callable Tryz.prog 135:=⟨_,Tryz.func135,rfl,by decide⟩
theorem Aas:Callable Tryz.prog 137:=⟨_,Tryz.func137,rfl,by decide⟩
theorem Aar:Callable Tryz.prog 138:=⟨_,Tryz.func138,rfl,by decide⟩
theorem Aaq:Callable Tryz.prog 139:=⟨_,Tryz.func139,rfl,by decide⟩
theorem Aap:Callable Tryz.prog 140:=⟨_,Tryz.func140,rfl,by decide⟩
theorem Aao:Callable Tryz.prog 141:=⟨_,Tryz.func141,rfl,by decide⟩
theorem Aan:Callable Tryz.prog 142:=⟨_,Tryz.func142,rfl,by decide⟩
theorem Aam:Callable Tryz.prog 143:=⟨_,Tryz.func143,rfl,by decide⟩
theorem Aal:Callable Tryz.prog 144:=⟨_,Tryz.func144,rfl,by decide⟩
theorem Aak:Callable Tryz.prog 145:=⟨_,Tryz.func145,rfl,by decide⟩
theorem Aaj:Callable Tryz.prog 146:=⟨_,Tryz.func146,rfl,by decide⟩
theorem Aai:Callable Tryz.prog 147:=⟨_,Tryz.func147,rfl,by decide⟩
theorem Aah:Callable Tryz.prog 148:=⟨_,Tryz.func148,rfl,by decide⟩
theorem Aag:Callable Tryz.prog 149:=⟨_,Tryz.func149,rfl,by decide⟩
theorem Aaf:Callable Tryz.prog 150:=⟨_,Tryz.func150,rfl,by decide⟩
theorem Aae:Callable Tryz.prog 151:=⟨_,Tryz.func151,rfl,by decide⟩
theorem Aad:Callable Tryz.prog 152:=⟨_,Tryz.func152,rfl,by decide⟩
theorem Aac:Callable Tryz.prog 153:=⟨_,Tryz.func153,rfl,by decide⟩
theorem Aab:Callable Tryz.prog 154:=⟨_,Tryz.func154,rfl,by decide⟩
theorem Aaa:Callable Tryz.prog 155:=⟨_,Tryz.func155,rfl,by decide⟩
theorem Z9:Callable Tryz.prog 162:=⟨_,Tryz.func162,rfl,by decide⟩
theorem Z8:Callable Tryz.prog 163:=⟨_,Tryz.func163,rfl,by decide⟩
theorem Z7:Callable Tryz.prog 164:=⟨_,Tryz.func164,rfl,by decide⟩
theorem Q0:Callable Tryz.prog 165:=⟨_,Tryz.func165,rfl,by decide⟩
theorem Z6:Callable Tryz.prog 166:=⟨_,Tryz.func166,rfl,by decide⟩
theorem Z5:Callable Tryz.prog 167:=⟨_,Tryz.func167,rfl,by decide⟩
theorem Z4:Callable Tryz.prog 168:=⟨_,Tryz.func168,rfl,by decide⟩
theorem Z3:Callable Tryz.prog 170:=⟨_,Tryz.func170,rfl,by decide⟩
theorem Z2:Callable Tryz.prog 171:=⟨_,Tryz.func171,rfl,by decide⟩
theorem Z1:Callable Tryz.prog 172:=⟨_,Tryz.func172,rfl,by decide⟩
theorem Z0:Callable Tryz.prog 173:=⟨_,Tryz.func173,rfl,by decide⟩
theorem Zz:Callable Tryz.prog 174:=⟨_,Tryz.func174,rfl,by decide⟩
theorem Zy:Callable Tryz.prog 175:=⟨_,Tryz.func175,rfl,by decide⟩
theorem Zx:Callable Tryz.prog 176:=⟨_,Tryz.func176,rfl,by decide⟩
theorem Zw:Callable Tryz.prog 177:=⟨_,Tryz.func177,rfl,by decide⟩
theorem Zv:Callable Tryz.prog 178:=⟨_,Tryz.func178,rfl,by decide⟩
theorem Zu:Callable Tryz.prog 180:=⟨_,Tryz.func180,rfl,by decide⟩
theorem Zt:Callable Tryz.prog 181:=⟨_,Tryz.func181,rfl,by decide⟩
theorem Zs:Callable Tryz.prog 183:=⟨_,Tryz.func183,rfl,by decide⟩
theorem Zr:Callable Tryz.prog 184:=⟨_,Tryz.func184,rfl,by decide⟩
theorem Zq:Callable Tryz.prog 185:=⟨_,Tryz.func185,rfl,by decide⟩
theorem Zp:Callable Tryz.prog 186:=⟨_,Tryz.func186,rfl,by decide⟩
theorem Zo:Callable Tryz.prog 187:=⟨_,Tryz.func187,rfl,by decide⟩
theorem Zn:Callable Tryz.prog 188:=⟨_,Tryz.func188,rfl,by decide⟩
theorem Zm:Callable Tryz.prog 189:=⟨_,Tryz.func189,rfl,by decide⟩
theorem Zl:Callable Tryz.prog 190:=⟨_,Tryz.func190,rfl,by decide⟩
theorem Zk:Callable Tryz.prog 191:=⟨_,Tryz.func191,rfl,by decide⟩
theorem Zj:Callable Tryz.prog 192:=⟨_,Tryz.func192,rfl,by decide⟩
end Go.Proofs.YtcihalbakenleaaGreat
namespace Go.Proofs.YtcihalbakenleaaGreat
open Go.RowKit
section
variable {P:Program} {n:Nat} {ops:Array Oper} {rest:List Oper} {K:Do} {f:Fr} {h:Xh} {o:Oper} {e:Operand→S} {α:Type}
theorem XL.len {t el:TypeId} {x:Operand} {sz:Nat} {g:α→List D} {l:List α} (ho:o.op= .call {callee:= .builtin .len,args:= #[x],argTypes:= #[t]}) (hw:Cc ops f n o.guard=some true) (hx:ev f x= .d (.sl sz (l.map g))) (hu:P.underlying t=some (.slice el))
  (hr:l.length≤9223372036854775807→XL P n ops rest K (Bv f o.dst (.d (.v (.int .i64 (l.length:Nat))))) h):XL P n ops (o::rest) K f h:=by
 refine XL.stepR (f':=f) (h':=h) (R:=fun s=>s= .d (.v (.int .i64 (l.length:Nat)))∧l.length≤9223372036854775807) hw (fun E H β a w hs hf hop=> ?_) (by rintro s ⟨rfl,h⟩;exact hr h)
 have g1:=hop x (by rw [ho];simp [Op.operands,Call.operands])
 rw [hx] at g1
 obtain ⟨A,c,h1,h2,h3,_⟩:=Q5 (D5 g1)
 have hrun:=Rf (P:=P) ho hu h1 w
 unfold Oper.wp
 rw [hrun]
 rw [List.length_map] at h2
 exact ⟨H,β,_,_,rfl,hs,hf, .d (.v _),by rw [List.length_map],by unfold maxLen at h3;omega⟩
theorem Pa {t m sz:Nat} {el:TypeId} {parts:Array (Nat × Operand)} {z:Value} {r:List S} (ho:o.op= .build t parts) (hu:P.underlying t=some (.array m el)) (hs:sizeB P el sz=true) (hz:zeroB P t z) (hr:Nz h (fun i=>some (i*sz,sz)) e (z.cells.toList.map fun x=> .d (.v x)) parts.toList=some r):
  Bf P o e h (.agg r):=fun E H β ρ w hsim hop=>by
 have hc0 : CellsAt H β z.cells (z.cells.toList.map fun x => .d (.v x)) := ⟨by simp, fun j v s hj hs' => by
  rw [List.getElem?_map,Array.getElem?_toList,hj] at hs'
  cases hs'
  exact .d (.v _)⟩
 obtain ⟨ys,y1,y2⟩:=Ln hsim (ρ:=ρ) parts.toList _ r z.cells hc0 (fun x hx=>hop x (by rw [ho];simpa [Op.operands] using hx)) hr
 refine ⟨.agg ys, ?_, .agg ys r y2.1 y2.2⟩
 have hfl:(parts.map fun (i,x)=>(i,ρ x)).toList=parts.toList.map fun (i,x)=>(i,ρ x):=by simp
 unfold execOp
 simp only [ho,Instr.build,Sem.run_bind,zeroB.run hz,Result.andThen_ok,run_underlying hu,sizeB.run hs,hfl,y1,Sem.run_pure]
theorem V0 {t m k:Nat} {x y:Operand} {l:List D} {d:D} {el:TypeId} {ik:IntKind} {a:Int} (ho:o.op= .index t x y) (hx:e x= .d (.agg l)) (hy:e y= .d (.v (.int ik a))) (ha:a=(k:Int)) (hu:P.underlying t=some (.array m el)) (hs:scB P el=true) (h1:sizeB P el 1=true) (hk:k<m) (hd:l[k]? =some d):Bf P o e h (.d d):=by
 subst ha;exact Ake ho hx hy hu hs h1 hk hd
theorem Apk {t el:TypeId} {x:Operand} {sz:Nat} {g:α→List D} {l:List α} (ho:o.op= .call {callee:= .builtin .len,args:= #[x],argTypes:= #[t]}) (hx:e x= .d (.sl sz (l.map g))) (hu:P.underlying t=some (.slice el)):Bf P o e h (.d (.v (.int .i64 (l.length:Nat)))):=by
 have:=Aq9 (P:=P) (h:=h) ho hx hu
 rwa [List.length_map] at this
theorem Ce {t el:TypeId} {x:Operand} {i sz:Nat} {ty:TypeId} {g:α→List D} {l:List α} (ho:o.op= .call {callee:= .builtin .len,args:= #[x],argTypes:= #[t]}) (hx:e x= .own i) (hi:h i=some (.row ty sz (l.map g))) (hu:P.underlying t=some (.slice el)):Bf P o e h (.d (.v (.int .i64 (l.length:Nat)))):=by
 have:=Ah9 (P:=P) ho hx hi hu
 rwa [List.length_map] at this
theorem Am {t sz:Nat} {x y:Operand} {g:α→List D} {l:List α} {a:α} {k:Nat} {ik:IntKind} (ho:o.op= .indexAddr t x y) (hx:e x= .d (.sl sz (l.map g))) (hy:e y= .d (.v (.int ik k))) (hf:elB P t sz=true) (hk:l[k]? =some a):Bf P o e h (.d (.pt (g a))):=
 Akf ho hx hy hf (by rw [List.getElem?_map,hk];rfl)
theorem Kh {t sz:Nat} {x y:Operand} {i k:Nat} {ik:IntKind} {ty:TypeId} {g:α→List D} {l:List α} (ho:o.op= .indexAddr t x y) (hx:e x= .own i) (hy:e y= .d (.v (.int ik k))) (hi:h i=some (.row ty sz (l.map g))) (hf:elB P t sz=true) (hk:k<l.length):Bf P o e h (.ptr i k 0):=
 Aia ho hx hy hi hf (by rw [List.length_map];exact hk)
theorem Eu {t sz:Nat} {x y:Operand} {g:α→List D} {l:List α} {b:α} {k:Nat} {ik:IntKind} {a:Int} (ho:o.op= .indexAddr t x y) (hx:e x= .d (.sl sz (l.map g))) (hy:e y= .d (.v (.int ik a))) (ha:a=(k:Int)) (hf:elB P t sz=true) (hk:l[k]? =some b):Bf P o e h (.d (.pt (g b))):=by
 subst ha;exact Am ho hx hy hf hk
theorem Dj {t sz:Nat} {x y:Operand} {i k:Nat} {ik:IntKind} {a:Int} {ty:TypeId} {g:α→List D} {l:List α} (ho:o.op= .indexAddr t x y) (hx:e x= .own i) (hy:e y= .d (.v (.int ik a))) (ha:a=(k:Int)) (hi:h i=some (.row ty sz (l.map g))) (hf:elB P t sz=true) (hk:k<l.length):Bf P o e h (.ptr i k 0):=by
 subst ha;exact Kh ho hx hy hi hf hk
theorem Js {t sz:Nat} {x:Operand} {lo hi:Option Operand} {g:α→List D} {l:List α} {a b:Nat} (ho:o.op= .slice t x lo hi none) (hx:e x= .d (.sl sz (l.map g))) (hf:elB P t sz=true)
  (hlo:Bd e lo 0 a) (hhi:Bd e hi l.length b) (hab:a≤b) (hb:b≤l.length):Bf P o e h (.d (.sl sz (((l.take b).drop a).map g))):=by
 have:=Ani (P:=P) (h:=h) ho hx hf hlo (b:=b) (by rw [List.length_map];exact hhi) hab (by rw [List.length_map];exact hb)
 rwa [←List.map_take, ←List.map_drop] at this
theorem Aet {g:α→List D} {l l':List α}:l.map g++l'.map g=(l++l').map g:=by rw [List.map_append]
end
def ChK (P:Program) (n:Nat) (ops:Array Oper) (rest:List Oper) (f:Fr) (h:Xh) (acc:List (List Nat × S)) (G:List (List Nat × S)→Fr→Xh→Prop):Prop:=∃L f' h',Ch P n ops rest f h L f' h'∧G (acc++L) f' h'
section
variable {P:Program} {n:Nat} {ops:Array Oper} {rest:List Oper} {f:Fr} {h h1:Xh} {o:Oper} {s:S} {ids:List Nat} {acc:List (List Nat × S)} {G:List (List Nat × S)→Fr→Xh→Prop}
theorem ChK.nil (hg:G acc f h):ChK P n ops [] f h acc G:=⟨[],f,h, .nil _ _,by rw [List.append_nil];exact hg⟩
theorem ChK.cons (hw:Cc ops f n o.guard=some true) (hc:CStep P o f h ids s h1) (hr:ChK P n ops rest (Bv f o.dst s) h1 (acc++ [(ids,s)]) G):ChK P n ops (o::rest) f h acc G:=by
 obtain ⟨L,f',h',k1,k2⟩:=hr
 exact ⟨(ids,s)::L,f',h', .cons hw hc k1,by rw [List.append_assoc] at k2;exact k2⟩
theorem ChK.skip (hw:Cc ops f n o.guard=some false) (hr:ChK P n ops rest (Bv f o.dst (.d (.v undef))) h (acc++ [([], .d (.v undef))]) G):ChK P n ops (o::rest) f h acc G:=by
 obtain ⟨L,f',h',k1,k2⟩:=hr
 exact ⟨_::L,f',h', .skip hw k1,by rw [List.append_assoc] at k2;exact k2⟩
theorem Bg {id:Nat} {l:List Oper} {K:Do} (sites:List Nat) (hm:P.follows .mixedOrders=true) (hin:l.all (inN n)=true) (hreg:Lt l.toArray l=true) (hnd:sites.Nodup)
  (hc:ChK P n l.toArray l (E1 f sites) (Fg h sites) [] (fun L f' h'=>L.flatMap (·.1)=sites∧K .normal f' h')):XW P n (.region id l.toArray true) K f h:=by
 obtain ⟨L,f',h',k1,k2,k3⟩:=hc
 exact Amk sites hm hin hreg k1 k2 hnd k3
end
theorem Kz {e:TypeId} {sz:Nat} {α:Type} {g:α→List D} {l l':List α} {a:α} {ds:List D} (hd:ds=g a) (hl:l'=l++ [a]):some (XO.row e sz (l.map g++ [ds]))=some (XO.row e sz (l'.map g)):=by rw [hl,hd,List.map_append];rfl
theorem G8 {e:TypeId} {sz:Nat} {α:Type} {g:α→List D} {l l' m:List α} (hl:l'=l++m):some (XO.row e sz (l.map g++m.map g))=some (XO.row e sz (l'.map g)):=by rw [hl,List.map_append]
theorem Bp {α:Type} {l:List α} {k:Nat} {x:α} (h:l[k]? =some x):l.take (k+1)=l.take k++ [x]:=by rw [List.take_add_one,h,Option.toList_some]
theorem rI {a b:Int} (h:a=b):D.v (.int .i64 a)= .v (.int .i64 b):=by rw [h]
theorem rB {a b:Bool} (h:a=b):D.v (.bool a)= .v (.bool b):=by rw [h]
theorem sI {a b:Int} (h:a=b):S.d (.v (.int .i64 a))= .d (.v (.int .i64 b)):=by rw [h]
theorem sB {a b:Bool} (h:a=b):S.d (.v (.bool a))= .d (.v (.bool b)):=by rw [h]
theorem r2 {a b a' b':D} (h:a=a') (h':b=b'):D.tup [a,b]= .tup [a',b']:=by rw [h,h']
theorem r3 {a b c a' b' c':D} (h:a=a') (h':b=b') (h'':c=c'):D.tup [a,b,c]= .tup [a',b',c']:=by rw [h,h',h'']
theorem rSl {sz:Nat} {α:Type} {g:α→List D} {l l':List α} (h:l=l'):D.sl sz (l.map g)= .sl sz (l'.map g):=by rw [h]
theorem Us {e:TypeId} {sz:Nat} {α:Type} {g:α→List D} {l l':List α} (h:l=l'):some (XO.row e sz (l.map g))=some (XO.row e sz (l'.map g)):=by rw [h]
end Go.Proofs.YtcihalbakenleaaGreat
namespace Go.Proofs.YtcihalbakenleaaGreat
open Go.RowKit
mutual
inductive DSub:D→D→Prop where
  |same {d d':D} (h:d=d'):DSub d d'
  |nil (sz:Nat):DSub (.v (.slice none 0 0)) (.sl sz [])
  |agg {l l':List D} (h:DSubL l l'):DSub (.agg l) (.agg l')
inductive DSubL:List D→List D→Prop where
  |nil:DSubL [] []
  |cons {d d':D} {l l':List D} (h:DSub d d') (hl:DSubL l l'):DSubL (d::l) (d'::l')
end
theorem DSubL.length:∀{l l':List D},DSubL l l'→l.length=l'.length
  |_,_, .nil=>rfl
  |_,_, .cons _ hl=>by simp [hl.length]
theorem DSubL.get:∀{l l':List D},DSubL l l'→∀{i:Nat} {d':D},l'[i]? =some d'→∃d,l[i]? =some d∧DSub d d'
  |_,_, .cons h _,0,_,e=>by simp at e;subst e;exact ⟨_,rfl,h⟩
  |_,_, .cons _ hl,i+1,d',e=>by
    obtain ⟨d,h1,h2⟩:=hl.get (i:=i) (d':=d') (by simpa using e)
    exact ⟨d,by simpa using h1,h2⟩
mutual
theorem DSub.vd:∀{d d':D},DSub d d'→∀{H:Hp} {u:Value},VD H u d→VD H u d'
  |_,_, .same h,_,_,hv=>by subst h;exact hv
  |_,_, .nil sz,_,_,hv=>by rw [R9 hv];exact .emp none 0 sz (fun _=>rfl) (Nat.zero_le _)
  |_,_, .agg h,H,u,hv=>by
    obtain ⟨cs,rfl,h1,h2⟩:=Tb hv
    refine .agg cs _ (h1.trans h.length) fun i x d' hx hd=> ?_
    exact DSubL.vd h hd fun d hd'=>h2 i x d hx hd'
theorem DSubL.vd:∀{l l':List D},DSubL l l'→∀{i:Nat} {d':D},l'[i]? =some d'→∀{H:Hp} {x:Value},(∀d,l[i]? =some d→VD H x d)→VD H x d'
  |_,_, .cons h _,0,_,e,_,_,hv=>by simp at e;subst e;exact h.vd (hv _ rfl)
  |_,_, .cons _ hl,i+1,d',e,_,_,hv=>DSubL.vd hl (i:=i) (by simpa using e) fun d hd=>hv d (by simpa using hd)
end
theorem RV.sub {P:Program} {n:Nat} {f:Fr} {h:Xh} {rv:ResultVar} {d d':D} (hr:RV P n f h rv d) (hs:DSub d d'):RV P n f h rv d':=fun E H β a w h1 h2=>by
  obtain ⟨u,e,v⟩:=hr E H β a w h1 h2
  exact ⟨u,e,hs.vd v⟩
inductive AS (f:Fr):List Operand→List D→Prop where
  |nil:AS f [] []
  |cons {x:Operand} {l:List Operand} {d d':D} {ds:List D} (hx:ev f x= .d d) (hs:DSub d d') (hl:AS f l ds):AS f (x::l) (d'::ds)
theorem AS.len {f:Fr} {l:List Operand} {ds:List D} (h:AS f l ds):l.length=ds.length:=by
  induction h with
  |nil=>rfl
  |cons _ _ _ ih=>simp [ih]
theorem AS.get {f:Fr} {l:List Operand} {ds:List D} (h:AS f l ds):∀{i:Nat} {x:Operand} {d:D},l[i]? =some x→ds[i]? =some d→∃d0,ev f x= .d d0∧DSub d0 d:=by
  induction h with
  |nil=>intro i x d h;simp at h
  | @cons x l d d' ds hx hs _ ih=>
    intro i y e h1 h2
    cases i with
    |zero=>simp at h1 h2;subst h1 h2;exact ⟨d,hx,hs⟩
    |succ i=>exact ih (by simpa using h1) (by simpa using h2)
theorem AS.vd {f:Fr} {H:Hp} {β:Bt} {a:Act} {args:Array Operand} {ds:List D} (ha:AS f args.toList ds) (hv:∀x∈args,VS H β (a.eval x) (ev f x)):
    (args.map a.eval).size=ds.length∧∀(i:Nat) (x:Value) (d:D),(args.map a.eval)[i]? =some x→ds[i]? =some d→VD H x d:=by
  have hl:=ha.len
  rw [Array.length_toList] at hl
  refine ⟨by simpa using hl,fun i x d hx hd=> ?_⟩
  have hi:i<args.size:=by have:=(List.getElem?_eq_some_iff.1 hd).1;omega
  have hx':x=a.eval args[i]:=by
    rw [Array.getElem?_map,Array.getElem?_eq_getElem hi] at hx
    simpa using hx.symm
  obtain ⟨d0,h1,h2⟩:=ha.get (i:=i) (x:=args[i]) (by rw [Array.getElem?_toList,Array.getElem?_eq_getElem hi]) hd
  have:=hv args[i] (Array.getElem_mem hi)
  rw [h1] at this
  rw [hx']
  exact h2.vd (D5 this)
section
variable {P:Program} {n:Nat} {ops:Array Oper} {rest:List Oper} {K:Do} {f:Fr} {h:Xh} {o:Oper} {F:FuncId} {ds:List D} {args:Array Operand} {tys:Array TypeId} {r:D}
theorem XL.calls (ho:o.op= .call {callee:= .value (.func F),args:=args,argTypes:=tys}) (hw:Cc ops f n o.guard=some true) (hx:XC P F ds (fun d=>d=r))
    (ha:AS f args.toList ds) (hr:XL P n ops rest K (Bv f o.dst (.d r)) h):XL P n ops (o::rest) K f h:=by
  refine XL.stepR (f':=f) (h':=h) (R:=fun s=>s= .d r) hw (fun E H β a w hs hf hop=> ?_) (by rintro s rfl;exact hr)
  have hop':∀x∈args,VS H β (a.eval x) (ev f x):=fun x hx=>hop x (by rw [ho];simp [Op.operands,Call.operands,hx])
  obtain ⟨hsz,hvd⟩:=ha.vd hop'
  have hrun:(execOp a.eval o).run P w= .ok (.enter F (args.map a.eval)) w:=by
    have:=hx.callable.run (args.map a.eval) w
    unfold execOp
    simp only [ho,resolve,Act.eval,Deferred.ofValue,Sem.run_bind,Sem.run_pure,Result.andThen_ok,invoke,Array.append_empty,Array.empty_append]
    exact this
  unfold Oper.wp
  rw [hrun]
  refine (hx.calls H w _ hs.imm hsz hvd).mono ?_
  rintro e w' ⟨H',u,r',rfl,rfl,hle,hnew,him,hb,hu⟩
  exact ⟨H',β,u, .d r',rfl,hs.call hb hle hnew him,hf.mono hle (fun _ _ h=>h), .d hu,rfl⟩
theorem CStep.calls (ho:o.op= .call {callee:= .value (.func F),args:=args,argTypes:=tys}) (hx:XC P F ds (fun d=>d=r)) (ha:AS f args.toList ds):CStep P o f h [] (.d r) h:=
  ⟨HLe.refl _, fun _ _ e => .inl e, fun hF hle E H β a w hs _ hop => by
    have hop':∀x∈args,VS H β (a.eval x) (ev f x):=fun x hx=>hop x (by rw [ho];simp [Op.operands,Call.operands,hx])
    obtain ⟨hsz,hvd⟩:=ha.vd hop'
    have hrun:(execOp a.eval o).run P w= .ok (.enter F (args.map a.eval)) w:=by
      have:=hx.callable.run (args.map a.eval) w
      unfold execOp
      simp only [ho,resolve,Act.eval,Deferred.ofValue,Sem.run_bind,Sem.run_pure,Result.andThen_ok,invoke,Array.append_empty,Array.empty_append]
      exact this
    unfold Oper.wp
    rw [hrun]
    refine (hx.calls H w _ hs.imm hsz hvd).mono ?_
    rintro e w' ⟨H',u,r',rfl,rfl,hle',hnew,him,hb,hu⟩
    exact ⟨H', β, u, rfl, hs.call hb hle' hnew him, hle', fun _ _ h => h, fun _ _ => rfl, .d hu⟩⟩
theorem OKo.sub {base:Nat} {w:World} {H:Hp} {β:Bt} {L:Loc} {e:TypeId} {sz:Nat} {l l':List (List D)} (hk:OKo base w H β L (.row e sz l)) (hl:l.length=l'.length) (hs:∀(k:Nat) (x x':List D),l[k]? =some x→l'[k]? =some x'→DSubL x x'):OKo base w H β L (.row e sz l'):=by
  obtain ⟨h0,hz,hv,us,h2,h3,h4⟩:=hk
  have hget:∀(k:Nat) (x':List D),l'[k]? =some x'→∃x,l[k]? =some x∧DSubL x x':=fun k x' hx'=>by
    have hk:k<l.length:=by rw [hl];exact (List.getElem?_eq_some_iff.1 hx').1
    exact ⟨_,List.getElem?_eq_getElem hk,hs k _ x' (List.getElem?_eq_getElem hk) hx'⟩
  refine ⟨h0,fun x' hx'=> ?_,hv,us,by rw [←hl];exact h2,h3,fun k j x' d' hx' hd'=> ?_⟩
  · obtain ⟨k,hk⟩:=List.getElem?_of_mem hx'
    obtain ⟨x,h1,h2⟩:=hget k x' hk
    rw [←h2.length]
    exact hz x (List.mem_of_getElem? h1)
  · obtain ⟨x,h1,h2⟩:=hget k x' hx'
    obtain ⟨d,h5,h6⟩:=h2.get hd'
    obtain ⟨u,h7,h8⟩:=h4 k j x d h1 h5
    exact ⟨u,h7,h6.vd h8⟩
theorem Sim.rowsub {E:Env} {H:Hp} {β:Bt} {w:World} (s:Sim E H β h w) {i:Nat} {e:TypeId} {sz:Nat} {l l':List (List D)} (hi:h i=some (.row e sz l)) (hl:l.length=l'.length) (hs:∀(k:Nat) (x x':List D),l[k]? =some x→l'[k]? =some x'→DSubL x x'):
    Sim E H β (h.set i (.row e sz l')) w:=by
  have aux:∀j o L,h.set i (.row e sz l') j=some o→β j=some L→∃o',h j=some o'∧o.blk L=o'.blk L∧(OKo E.w.heap.size w H β L o'→OKo E.w.heap.size w H β L o):=by
    intro j o L ho hL
    by_cases e':i=j
    · subst e'
      rw [Xh.set_same] at ho
      cases ho
      exact ⟨_,hi,rfl,fun hk=>hk.sub hl hs⟩
    · rw [Xh.set_ne _ _ e'] at ho
      exact ⟨o,ho,rfl,fun hk=>hk⟩
  refine ⟨s.below,s.ext,s.new,s.imm,fun j o L ho hL=> ?_,fun j o L ho hL b hb=> ?_,fun j j' o o' L L' b hjj ho ho' hL hL' hb=> ?_,fun j o ho hg=> ?_⟩
  rotate_left 3
  · by_cases e':i=j
    · subst e';rw [Xh.set_same] at ho;cases ho;cases hg
    · rw [Xh.set_ne _ _ e'] at ho;exact s.dom j o ho hg
  · obtain ⟨o',h1,_,h3⟩:=aux j o L ho hL
    exact h3 (s.obj j o' L h1 hL)
  · obtain ⟨o',h1,h2,_⟩:=aux j o L ho hL
    rw [h2] at hb
    exact s.sep j o' L h1 hL b hb
  · obtain ⟨o1,h1,h2,_⟩:=aux j o L ho hL
    obtain ⟨o2,h3,h4,_⟩:=aux j' o' L' ho' hL'
    rw [h2] at hb
    rw [h4]
    exact s.inj j j' o1 o2 L L' b hjj h1 h3 hL hL' hb
theorem XL.row1 {i:Nat} {e:TypeId} {sz:Nat} {x x':List D} (hi:h i=some (.row e sz [x])) (hs:DSubL x x') (hr:XL P n ops rest K f (h.set i (.row e sz [x']))):XL P n ops rest K f h:=fun hin E H β a w h1 h2=>
  hr hin E H β a w (h1.rowsub hi rfl fun k y y' e1 e2 => by
    match k with
    |0=>simp at e1 e2;subst e1 e2;exact hs
    | k + 1 => simp at e1) h2
end
theorem Tm {P:Program} {o:Oper} {f:Fr} {h:Xh} {E:Env} {H:Hp} {β:Bt} {a:Act} {w:World} {t ty:TypeId} {sz len:Nat} {parts:Array (Nat × Operand)} {z:Value} {l:List (List D)} (ho:o.op= .buildSlice t len parts) (hu:P.underlying t=some (.slice ty)) (hsz:sizeB P ty sz=true) (hz:zeroB P ty z)
    (hr:Gv h (ev f) sz parts.toList=some l) (hlen:parts.toList.map (·.1)=List.range len) (hpos:0<sz) (hmax:len*sz≤16777216) {hF:Xh} (hle:HLe h hF) (hs:Sim E H β hF w) (hop:∀x∈o.op.operands,VS H β (a.eval x) (ev f x)):
    ∃(u:Value) (H':Hp) (w':World),(execOp a.eval o).run P w= .ok (.value u) w'∧Sim E H' β hF w'∧H.le H'∧VD H' u (.sl sz l):=by
  have hpl:parts.toList.length=len:=by have:=congrArg List.length hlen;simpa using this
  have hcells0:CellsAt H β ((Array.range (len*sz)).map (z.cells[· % z.cells.size]!)) ((List.range (len*sz)).map fun j=> .d (.v (z.cells[j % z.cells.size]!))):=by
    refine ⟨by simp,fun j v s hj hs'=> ?_⟩
    rw [List.getElem?_map] at hs'
    rw [Array.getElem?_map] at hj
    by_cases hlt:j<len*sz
    · rw [List.getElem?_range hlt] at hs'
      have:(Array.range (len*sz))[j]? =some j:=by simp [hlt]
      rw [this] at hj
      cases hj;cases hs'
      exact .d (.v _)
    · rw [List.getElem?_eq_none (by simpa using hlt)] at hs';cases hs'
  have mono:∀(ps:List (Nat × Operand)) (l:List (List D)),Gv h (ev f) sz ps=some l→Gv hF (ev f) sz ps=some l:=by
    intro ps
    induction ps with
    |nil=>intro l h;exact h
    |cons q ps ih=>
      obtain ⟨i,x⟩:=q
      intro l hl
      unfold Gv at hl ⊢
      cases hc:E3 h (ev f x) with
      |none=>rw [hc] at hl;cases hl
      |some cs=>
        rw [hc] at hl
        rw [R4 hle hc]
        simp only at hl ⊢
        cases hd:Jn cs with
        |none=>rw [hd] at hl;cases hl
        |some ds=>
          rw [hd] at hl
          simp only at hl ⊢
          cases hr:Gv h (ev f) sz ps with
          |none=>rw [hr] at hl;cases hl
          |some l'=>rw [hr] at hl;rw [ih l' hr];exact hl
  have hr':=mono _ _ hr
  obtain ⟨r1,r2,r3⟩:=N8 parts.toList l 0 ((List.range (len*sz)).map fun j=>S.d (.v (z.cells[j % z.cells.size]!))) hr' (by rw [hlen,hpl,List.range_eq_range']) (by simp [hpl])
  obtain ⟨ys,y1,y2⟩:=Ln hs (ρ:=a.eval) parts.toList _ _ _ hcells0 (fun x hx=>hop x (by rw [ho];simpa [Op.operands] using hx)) r3
  have hll:l.length=len:=by rw [r2,hpl]
  rw [Nat.zero_mul,List.take_zero,List.nil_append] at y2
  have hysz:ys.size=len*sz:=by rw [y2.1,List.length_map,Fz r1,hll]
  have hrun:(execOp a.eval o).run P w= .ok (.value (.slice (some ⟨w.heap.size,0,none⟩) l.length len)) (w.alloc (.cells ys ty)):=by
    have hfl:(parts.map fun (i,x)=>(i,a.eval x)).toList=parts.toList.map fun (i,x)=>(i,a.eval x):=by simp
    unfold execOp
    simp only [ho,Instr.buildSlice,Sem.run_bind,run_underlying hu,Result.andThen_ok,sizeB.run hsz,show ¬len*sz>2 ^ 24 by omega,if_false,Sem.run_pure]
    by_cases h0:len*sz=0
    · have hl0:len=0:=by
        rcases Nat.mul_eq_zero.1 h0 with h|h
        · exact h
        · omega
      subst hl0
      have hp0:parts.toList= []:=List.eq_nil_of_length_eq_zero hpl
      have hys:ys= #[]:=Array.eq_empty_of_size_eq_zero (by rw [hysz];simp)
      simp only [h0,if_true,Sem.run_pure,Result.andThen_ok,hfl,hp0,List.map_nil,Instr.fill,newRow,Sem.run_bind,run_newObj,World.alloc_eq,hll,hys,X7]
    · simp only [h0,if_false,Sem.run_bind,zeroB.run hz,Result.andThen_ok,Sem.run_pure,hfl,y1,newRow,run_newObj,World.alloc_eq,hll]
  have hone:∀u∈ys,u.oneCell'=true:=fun u hu=>by
    obtain ⟨j,hj⟩:=Array.getElem?_of_mem hu
    have hjl:=(Array.getElem?_eq_some_iff.1 hj).1
    have hd:∃d,l.flatten[j]? =some d:=⟨_,List.getElem?_eq_getElem (by rw [Fz r1,hll, ←hysz];exact hjl)⟩
    obtain ⟨d,hd⟩:=hd
    have:=y2.2 j u (.d d) hj (by rw [List.getElem?_map,hd];rfl)
    exact Ta (D5 this) (Sj hr' d (List.mem_of_getElem? hd))
  have hnone:∀off,H w.heap.size off=none:=fun off=>by
    cases e:H w.heap.size off with
    |none=>rfl
    |some u=>have:=hs.imm.lt e;omega
  have hbel:Below w.heap.size w (w.alloc (.cells ys ty)):=(Below.refl _ _).alloc (Nat.le_refl _) _
  have him:Imm (H.plus w.heap.size (ys[·]?)) (w.alloc (.cells ys ty)):=fun b k u e=>by
    rcases Hp.plus_new e with k1|⟨rfl,k2⟩
    · exact (hs.imm.below hbel) b k u k1
    · exact ⟨by rw [World.cell?_alloc_new];exact k2,hone u (Array.mem_of_getElem? k2)⟩
  have hsim := hs.call hbel (Hp.plus_le H w.heap.size (ys[·]?)) (fun b k u e => by
    rcases Hp.plus_new e with k1|⟨rfl,_⟩
    · exact .inl k1
    · exact .inr (Nat.le_refl _)) him
  refine ⟨_,_,_,hrun,hsim,Hp.plus_le _ _ _, ?_⟩
  by_cases h0:l= []
  · subst h0
    exact .emp _ _ _ (fun h=>by cases h) (by have:len=0:=(by rw [←hll];rfl);unfold maxLen;omega)
  · have hget:∀(k j:Nat) (x:List D) (d:D),l[k]? =some x→x[j]? =some d→ys[0+(k*sz+j)]? =some ((ys[k*sz+j]?).getD undef)∧VD H ((ys[k*sz+j]?).getD undef) d:=by
      intro k j x d hk hj
      have hg:=Od r1 hk hj
      have hlt:=(List.getElem?_eq_some_iff.1 hg).1
      rw [Fz r1,hll, ←hysz] at hlt
      have hy:ys[k*sz+j]? =some ys[k*sz+j]:=Array.getElem?_eq_getElem hlt
      rw [Nat.zero_add,hy]
      exact ⟨rfl,D5 (y2.2 _ _ (.d d) hy (by rw [List.getElem?_map,hg];rfl))⟩
    exact .sl w.heap.size 0 l.length len sz l (fun k j=>(ys[k*sz+j]?).getD undef) rfl (by omega) (by unfold maxLen;have:len≤len*sz:=Nat.le_mul_of_pos_right _ hpos;omega) r1
      (fun k j x d h1 h2=>by rw [Hp.plus_at hnone];exact (hget k j x d h1 h2).1) (fun k j x d h1 h2=>((hget k j x d h1 h2).2).mono (Hp.plus_le _ _ _))
section
variable {P:Program} {n:Nat} {o:Oper} {f:Fr} {h:Xh} {t ty:TypeId} {sz len:Nat} {parts:Array (Nat × Operand)} {z:Value} {l:List (List D)}
theorem J6 (ho:o.op= .buildSlice t len parts) (hu:P.underlying t=some (.slice ty)) (hsz:sizeB P ty sz=true) (hz:zeroB P ty z)
    (hr:Gv h (ev f) sz parts.toList=some l) (hlen:parts.toList.map (·.1)=List.range len) (hpos:0<sz) (hmax:len*sz≤16777216):Step P n o f h (.d (.sl sz l)) f h:=by
  intro E H β a w hs hf hop
  obtain ⟨u,H',w',r1,r2,r3,r4⟩:=Tm ho hu hsz hz hr hlen hpos hmax (HLe.refl _) hs hop
  unfold Oper.wp
  rw [r1]
  exact ⟨H',β,u,rfl,r2,hf.mono r3 (fun _ _ h=>h), .d r4⟩
theorem CStep.slice (ho:o.op= .buildSlice t len parts) (hu:P.underlying t=some (.slice ty)) (hsz:sizeB P ty sz=true) (hz:zeroB P ty z)
    (hr:Gv h (ev f) sz parts.toList=some l) (hlen:parts.toList.map (·.1)=List.range len) (hpos:0<sz) (hmax:len*sz≤16777216):CStep P o f h [] (.d (.sl sz l)) h:=
  ⟨HLe.refl _, fun _ _ e => .inl e, fun hF hle E H β a w hs _ hop => by
    obtain ⟨u,H',w',r1,r2,r3,r4⟩:=Tm ho hu hsz hz hr hlen hpos hmax hle hs hop
    unfold Oper.wp
    rw [r1]
    exact ⟨H', β, u, rfl, r2, r3, fun _ _ h => h, fun _ _ => rfl, .d r4⟩⟩
end
section
variable {P:Program} {o:Oper} {e:Operand→S} {h:Xh} {t t':TypeId} {x y:Operand} {a b:Int}
theorem Al2 (ho:o.op= .binOp .and t x y t') (hx:e x= .d (.v (.int .i64 a))) (hy:e y= .d (.v (.int .i64 b))) (ha:0≤a) (ha':a≤9223372036854775807) (hb:0≤b) (hb':b≤9223372036854775807):Bf P o e h (.d (.v (.int .i64 ((a.toNat &&& b.toNat:Nat):Int)))):=
  Iu ho hx hy rfl (by simp) fun w=>by
    obtain ⟨m,rfl⟩:∃m:Nat,a=m:=⟨a.toNat,by omega⟩
    obtain ⟨k,rfl⟩:∃k:Nat,b=k:=⟨b.toNat,by omega⟩
    have hm:m<2 ^ 64:=by omega
    have hk:k<2 ^ 64:=by omega
    have h1:(BitVec.ofInt 64 (m:Int) &&& BitVec.ofInt 64 (k:Int)).toNat=m &&& k:=by
      rw [BitVec.toNat_and,BitVec.ofInt_natCast,BitVec.ofInt_natCast,BitVec.toNat_ofNat,BitVec.toNat_ofNat,Nat.mod_eq_of_lt hm,Nat.mod_eq_of_lt hk]
    have hle:m &&& k≤m:=Nat.and_le_left
    show (Op.intBits .and .i64 m k).run P w=_
    unfold Op.intBits
    simp only [Int.toNat_natCast]
    have h2:IntKind.i64.wrap ((m &&& k:Nat):Int)=((m &&& k:Nat):Int):=IntWalk.i64_in _ (by omega)
    show Result.ok (Value.int .i64 (IntKind.i64.wrap ((BitVec.ofInt 64 (m:Int) &&& BitVec.ofInt 64 (k:Int)).toNat:Int))) w=_
    rw [h1,h2]
theorem Aoj (n k:Nat):n &&& 2 ^ k=if n / 2 ^ k % 2=1 then 2 ^ k else 0:=by
  have hb:n.testBit k=decide (n / 2 ^ k % 2=1):=Nat.testBit_eq_decide_div_mod_eq
  apply Nat.eq_of_testBit_eq
  intro j
  rw [Nat.testBit_and,Nat.testBit_two_pow]
  by_cases e:k=j
  · subst e
    rw [hb]
    split
    · rename_i h;simp [h]
    · rename_i h;simp [h]
  · split
    · rw [Nat.testBit_two_pow];simp [e]
    · simp [e]
end
section
variable {P:Program} {n:Nat} {o:Oper} {f:Fr} {h:Xh}
theorem A0 (i:Nat) {l:List S} {t:TypeId} {z:Value} (ho:o.op= .alloc t) (hz:zeroB P t z) (hl:S.killL i (z.cells.toList.map fun x=> .d (.v x))=l):Step P n o f h (.ptr i 0 0) (Hb f i) ((h.kill i).set i (.box l)):=by
  subst hl;exact Ajy i ho hz
theorem As (i:Nat) {l:List S} {t:TypeId} {x:Operand} {cs:List S} (ho:o.op= .box t x) (hc:E3 h (ev f x)=some cs) (hl:S.killL i cs=l):Step P n o f h (.ptr i 0 0) (Hb f i) ((h.kill i).set i (.box l)):=by
  subst hl;exact Ao1 i ho hc
theorem Ag {t m:Nat} {x y:Operand} {i off:Nat} {l cs l':List S} (ho:o.op= .store t x y) (hx:ev f x= .ptr i 0 off) (hi:h i=some (.box l)) (hc:E3 h (ev f y)=some cs) (hz:sizeB P t m=true) (hm:cs.length=m) (hoff:off+m≤l.length) (hl:sets l off cs=l'):
    Step P n o f h (.d (.v undef)) f (h.set i (.box l')):=by
  subst hl;exact Ajw ho hx hi hc hz hm hoff
theorem CStep.allocN (i:Nat) {l:List S} {t:TypeId} {z:Value} (ho:o.op= .alloc t) (hz:zeroB P t z) (hi:h i=none) (hl:(z.cells.toList.map fun x=>S.d (.v x))=l):CStep P o f h [i] (.ptr i 0 0) (h.set i (.box l)):=by
  subst hl;exact CStep.alloc i ho hz hi
end
section
variable {P:Program} {n:Nat} {ops:Array Oper} {rest:List Oper} {K K0:Do} {f:Fr} {h:Xh} {o:Oper} {x y z:Operand} {d:D} {b:Bool} {s:S}
theorem zp (hp:Bf P o (ev f) h s) (hr:XL P n ops rest K (Bv f o.dst s) h) (hw:Cc ops f n o.guard=some true:=by exact rfl):XL P n ops (o::rest) K f h:=XL.pure hw hp hr
theorem zm (ho:o.op= .move x) (hs:ev f x= .d d) (hr:XL P n ops rest K (Bv f o.dst (.d d)) h) (hw:Cc ops f n o.guard=some true:=by exact rfl):XL P n ops (o::rest) K f h:=XL.pure hw (A3 ho hs) hr
theorem za (ho:o.op= .assign x) (hs:ev f x= .d d) (hr:XL P n ops rest K (Bv f o.dst (.d d)) h) (hw:Cc ops f n o.guard=some true:=by exact rfl):XL P n ops (o::rest) K f h:=XL.pure hw (A4 ho hs) hr
theorem zq (ho:o.op= .pick z x y) (hc:ev f z= .d (.v (.bool b))) (hs:(bif b then ev f x else ev f y)= .d d) (hr:XL P n ops rest K (Bv f o.dst (.d d)) h) (hw:Cc ops f n o.guard=some true:=by exact rfl):XL P n ops (o::rest) K f h:=XL.pure hw (A7 ho hc hs) hr
def skB (ops:Array Oper) (n:Nat):Nat→List Oper→Fr→Bool
  |0,_,_=>true
  |_+1, [],_=>false
  |k+1,o::r,f=>(match Cc ops f n o.guard with|some false=>true|_=>false) && skB ops n k r (Bv f o.dst (.d (.v undef)))
def skF:Nat→List Oper→Fr→Fr
  |0,_,f=>f
  |_+1, [],f=>f
  |k+1,o::r,f=>skF k r (Bv f o.dst (.d (.v undef)))
theorem zk (k:Nat) (hk:skB ops n k rest f=true) (hr:XL P n ops (rest.drop k) K (skF k rest f) h):XL P n ops rest K f h:=by
  induction k generalizing rest f with
  |zero=>exact hr
  |succ k ih=>
    cases rest with
    |nil=>cases hk
    |cons o r=>
      rw [skB,Bool.and_eq_true] at hk
      have hw:Cc ops f n o.guard=some false:=by
        have h1:=hk.1
        split at h1
        · assumption
        · cases h1
      exact XL.skip hw (ih hk.2 hr)
theorem zr {id:Nat} {l:List Oper} {c:Code} (hl:XL P n l.toArray l (Nq (XW P n c K) K) f h) (hin:l.all (inN n)=true:=by kernel_rfl):XW P n (.seq (.region id l.toArray false) c) K f h:=Ag3 (Af hin hl)
theorem znr {id:Nat} {l:List Oper} {c:Code} (hl:XL P n l.toArray l (Nq (XW P n c K) K) f h) (hin:l.all (inN n)=true:=by kernel_rfl):XL P n ops [] (Nq (XW P n (.seq (.region id l.toArray false) c) K) K0) f h:=XL.nil (zr hl hin)
theorem zng {id:Nat} {l:List Oper} (hl:XL P n l.toArray l K f h) (hin:l.all (inN n)=true:=by kernel_rfl):XL P n ops [] (Nq (XW P n (.region id l.toArray false) K) K0) f h:=XL.nil (Af hin hl)
theorem yp {acc:List (List Nat × S)} {G:List (List Nat × S)→Fr→Xh→Prop} (hp:Bf P o (ev f) h s) (hr:ChK P n ops rest (Bv f o.dst s) h (acc++ [([],s)]) G) (hw:Cc ops f n o.guard=some true:=by exact rfl):ChK P n ops (o::rest) f h acc G:=ChK.cons hw (CStep.pure hp) hr
theorem ym {acc:List (List Nat × S)} {G:List (List Nat × S)→Fr→Xh→Prop} (ho:o.op= .move x) (hs:ev f x= .d d) (hr:ChK P n ops rest (Bv f o.dst (.d d)) h (acc++ [([], .d d)]) G) (hw:Cc ops f n o.guard=some true:=by exact rfl):ChK P n ops (o::rest) f h acc G:=ChK.cons hw (CStep.pure (A3 ho hs)) hr
theorem ya {acc:List (List Nat × S)} {G:List (List Nat × S)→Fr→Xh→Prop} (ho:o.op= .assign x) (hs:ev f x= .d d) (hr:ChK P n ops rest (Bv f o.dst (.d d)) h (acc++ [([], .d d)]) G) (hw:Cc ops f n o.guard=some true:=by exact rfl):ChK P n ops (o::rest) f h acc G:=ChK.cons hw (CStep.pure (A4 ho hs)) hr
theorem zn (hk:K .normal f h):XL P n ops [] K f h:=XL.nil hk
theorem zs {x y:Code} (hx:XW P n x (Nq (XW P n y K) K) f h):XW P n (.seq x y) K f h:=Ag3 hx
theorem zt (hk:K .ret f h):XW P n .ret K f h:=Aom hk
theorem zi (hk:K .normal f h):XW P n .skip K f h:=Amh hk
theorem zd {c:Operand} {x y:Code} {p:Prop} [Decidable p] (hc:ev f c= .d (.v (.bool (decide p)))) (h1:p→XW P n x K f h) (h2:¬p→XW P n y K f h) (hi:Ss n c=true:=by kernel_rfl):XW P n (.cond c x y) K f h:=Aon hi hc h1 h2
theorem z1 {fn:Func} {R:D→Prop} {t:Nat} (hr:fn.results= #[.tmp t]) (hf:f t= .d d) (hR:R d) (ht:Nat.blt t n=true:=by exact rfl):Le P n fn R f h:=F8 hr (RV.tmp ht hf) hR
theorem sr {s:S}:Sub s s:= .same rfl
def FA (f:Fr):List (Nat × S)→Prop
  | []=>True
  |(t,s)::l=>Sub (f t) s∧FA f l
theorem fz:∀{l:List (Nat × S)},FA f l→FSub n f (mkF l)
  | [],_=>FSub.nil
  |(_,_)::_,h=>FSub.cons h.1 (fz h.2)
def HA (h:Xh):List (Nat × XO)→Prop
  | []=>True
  |(i,o)::l=>h i=some o∧HA h l
theorem gz:∀{l:List (Nat × XO)},HA h l→HSub h (mkH l)
  | [],_=>HSub.nil
  |(_,_)::_,k=>HSub.cons k.1 (gz k.2)
end
end Go.Proofs.YtcihalbakenleaaGreat
namespace Go.Proofs.YtcihalbakenleaaGreat
open Go.RowKit
def Sg:Nat→Int
 |0=>0|1=>2|2=>4|3=>5|4=>7|5=>9|_=>11
theorem Aec (k:Nat):0≤Sg k∧Sg k≤11:=by unfold Sg;split<;>omega
def Ahr:List D:= [dI 0,dI 2,dI 4,dI 5,dI 7,dI 9,dI 11]
theorem Ahq (k:Nat) (h:k<7):Ahr[k]? =some (dI (Sg k)):=by
 match k,h with
 |0,_=>rfl|1,_=>rfl|2,_=>rfl|3,_=>rfl|4,_=>rfl|5,_=>rfl|6,_=>rfl
 |k+7,h=>omega
def Pit.inR (p:Pit):Prop:=0≤p.step∧p.step≤6∧ -2≤p.alter∧p.alter≤2∧ -1≤p.oct∧p.oct≤9
instance (p:Pit):Decidable p.inR:=by unfold Pit.inR;exact inferInstance
def Pit.n (p:Pit):Int:=12*(p.oct+1)+Sg p.step.toNat+p.alter
def Pit.good (p:Pit):Prop:=p.inR∧0≤p.n∧p.n≤127
instance (p:Pit):Decidable p.good:=by unfold Pit.good;exact inferInstance
def Pit.err (p:Pit):Int:=if p.good then 0 else 18
def Pit.num (p:Pit):Int:=if p.good then p.n else 0
theorem Xx  :XC Tryz.prog 192 [] (fun r=>r= .agg Ahr):=by
 refine Ao Zj Tryz.func192 R R lb<|zr<|XL.step R (A0 0 (l:= [.d (dI 0), .d (dI 0), .d (dI 0), .d (dI 0), .d (dI 0), .d (dI 0), .d (dI 0)]) R Xe (by kernel_rfl))<|znr<|zp (Ae (s':= .d (.agg [dI 0,dI 2,dI 4,dI 5,dI 7,dI 9,dI 11])) (Ac (Pa R Tryz.underlying210 Df Xe R)) (by kernel_rfl))<|?_
 refine XL.step R (Ag (l':= [.d (dI 0), .d (dI 2), .d (dI 4), .d (dI 5), .d (dI 7), .d (dI 9), .d (dI 11)]) R R R R Aot R lb (by kernel_rfl))<|zn<|zt<|?_
 exact F8 R (RV.cells R R R Aok lb R) (R)
theorem T0 (p:Pit) (h:p.inR):XC Tryz.prog 189 [.agg (Pit.c p)] (fun r=>r=dI p.n):=by
 obtain ⟨k,hk⟩:∃k:Nat,p.step=k:=⟨p.step.toNat,by have:=h.1;omega⟩
 have hb:=Aec k
 have h':=h
 simp only [Pit.inR] at h
 refine Ao Zm Tryz.func189 R R lb<|zr<|XL.step R (As 1 (l:= [.d (dI p.step), .d (dI p.alter), .d (dI p.oct)]) R R (by kernel_rfl))<|za R R<|zn<|zs<|Bg [] (by kernel_rfl) (by kernel_rfl) (by kernel_rfl) (by decide)<|yp (Ab R R K7)<|yp (Aa R R Ah R R)<|yp (Ak R R R (by omega) (by omega))<|yp (Id R R R (by omega) (by omega))<|?_
 refine ChK.cons R (CStep.call R (Xx) R)<|yp (Ab R R K9)<|yp (Aa R R Ah R R)<|yp (V0 (k:=k) R R R hk Tryz.underlying210 Ah Df (by omega) (Ahq k (by omega)))<|yp (Ak R R R (by omega) (by omega))<|yp (Ab R R K8)<|yp (Aa R R Ah R R)<|yp (Ak R R R (by omega) (by omega))<|ya R R<|?_
 refine ChK.nil ⟨by kernel_rfl, ?_⟩
 exact zt<|z1 R R (rI (by rw [Pit.n,hk];rfl))
theorem Pit.inR_mk {p:Pit} (h1:¬p.step<0) (h2:¬6<p.step) (h3:¬p.alter< -2) (h4:¬2<p.alter) (h5:¬p.oct< -1) (h6:¬9<p.oct):p.inR:=⟨by omega,by omega,by omega,by omega,by omega,by omega⟩
theorem Pit.err_no {p:Pit} (h:¬p.good):18=p.err:=by rw [Pit.err,if_neg h]
theorem Pit.err_ok {p:Pit} (h:p.good):0=p.err:=by rw [Pit.err,if_pos h]
theorem Ah7 (p:Pit):XC Tryz.prog 188 [.agg (Pit.c p)] (fun r=>r=dI p.err):=by
 refine Ao Zn Tryz.func188 R R lb<|zr<|XL.step R (As 1 (l:= [.d (dI p.step), .d (dI p.alter), .d (dI p.oct)]) R R (by kernel_rfl))<|za R R<|zn<|zs<|zr<|zp (Ab R R K9)<|zp (Aa R R Ah R R)<|zp (Aq R R R)<|zm R R<|?_
 refine XL.dec 7 R (fun g7=> ?_) (fun g7=> ?_)
 refine zk 3 R<|zq R R R<|zm R R<|zk 3 R<|zq R R R<|zm R R<|zk 3 R<|zq R R R<|zm R R<|zk 3 R<|zq R R R<|zm R R<|zk 3 R<|zq R R R<|?_
 exact zn<|An (by kernel_rfl) R<|zr<|za R R<|zn<|zt<|z1 R R (rI (Pit.err_no fun h=>by obtain ⟨⟨h1,h2,h3,h4,h5,h6⟩,_⟩:=h;omega))
 refine zp (Ab R R K9)<|zp (Aa R R Ah R R)<|zp (A5 R R R)<|zq R R R<|zm R R<|?_
 refine XL.dec 12 R (fun g12=> ?_) (fun g12=> ?_)
 refine zk 3 R<|zq R R R<|zm R R<|zk 3 R<|zq R R R<|zm R R<|zk 3 R<|zq R R R<|zm R R<|zk 3 R<|zq R R R<|zn<|An (by kernel_rfl) R<|zr<|?_
 exact za R R<|zn<|zt<|z1 R R (rI (Pit.err_no fun h=>by obtain ⟨⟨h1,h2,h3,h4,h5,h6⟩,_⟩:=h;omega))
 refine zp (Ab R R K8)<|zp (Aa R R Ah R R)<|zp (Aq R R R)<|zq R R R<|zm R R<|?_
 refine XL.dec 17 R (fun g17=> ?_) (fun g17=> ?_)
 exact zk 3 R<|zq R R R<|zm R R<|zk 3 R<|zq R R R<|zm R R<|zk 3 R<|zq R R R<|zn<|An (by kernel_rfl) R<|zr<|za R R<|zn<|zt<|z1 R R (rI (Pit.err_no fun h=>by obtain ⟨⟨h1,h2,h3,h4,h5,h6⟩,_⟩:=h;omega))
 refine zp (Ab R R K8)<|zp (Aa R R Ah R R)<|zp (A5 R R R)<|zq R R R<|zm R R<|?_
 refine XL.dec 22 R (fun g22=> ?_) (fun g22=> ?_)
 exact zk 3 R<|zq R R R<|zm R R<|zk 3 R<|zq R R R<|zn<|An (by kernel_rfl) R<|zr<|za R R<|zn<|zt<|z1 R R (rI (Pit.err_no fun h=>by obtain ⟨⟨h1,h2,h3,h4,h5,h6⟩,_⟩:=h;omega))
 refine zp (Ab R R K7)<|zp (Aa R R Ah R R)<|zp (Aq R R R)<|zq R R R<|zm R R<|?_
 refine XL.dec 27 R (fun g27=> ?_) (fun g27=> ?_)
 exact zk 3 R<|zq R R R<|zn<|An (by kernel_rfl) R<|zr<|za R R<|zn<|zt<|z1 R R (rI (Pit.err_no fun h=>by obtain ⟨⟨h1,h2,h3,h4,h5,h6⟩,_⟩:=h;omega))
 refine zp (Ab R R K7)<|zp (Aa R R Ah R R)<|zp (A5 R R R)<|zq R R R<|zn<|?_
 refine zd R (fun c31=> ?_) (fun c31=> ?_)
 exact zr<|za R R<|zn<|zt<|z1 R R (rI (Pit.err_no fun h=>by obtain ⟨⟨h1,h2,h3,h4,h5,h6⟩,_⟩:=h;omega))
 refine zi<|zs<|zs<|?_
 have hin:p.inR:=by refine Pit.inR_mk ?_ ?_ ?_ ?_ ?_ ?_<;>assumption
 refine Af (by kernel_rfl)<|zp (Ae (s':= .d (.agg (Pit.c p))) (Ac (Ad R R Eq R lb)) (by kernel_rfl))<|XL.call1 R R (T0 _ (by assumption)) R<|za R R<|znr<|zm R R<|zp (Aq R R R)<|zm R R<|?_
 refine XL.dec 36 R (fun g36=> ?_) (fun g36=> ?_)
 exact zk 2 R<|zq R R R<|zn<|An (by kernel_rfl) R<|zr<|za R R<|zn<|zt<|z1 R R (rI (Pit.err_no fun h=>by obtain ⟨_,h1,h2⟩:=h;omega))
 refine zm R R<|zp (A5 R R R)<|zq R R R<|zn<|?_
 refine zd R (fun c39=> ?_) (fun c39=> ?_)
 exact zr<|za R R<|zn<|zt<|z1 R R (rI (Pit.err_no fun h=>by obtain ⟨_,h1,h2⟩:=h;omega))
 exact zi<|zr<|za R R<|zn<|zt<|z1 R R (rI (Pit.err_ok ⟨hin,by omega,by omega⟩))
theorem Pit.err_num {p:Pit} (h:p.err≠0):0=p.num∧p.err=18:=by unfold Pit.err at h ⊢;unfold Pit.num;split<;>simp_all
theorem Pit.of_err {p:Pit} (h:¬p.err≠0):p.good:=by unfold Pit.err at h;split at h<;>simp_all
theorem Pit.num_ok {p:Pit} (h:p.good):p.num=p.n:=by rw [Pit.num,if_pos h]
theorem Pit.num_bd (p:Pit):0≤p.num∧p.num≤127:=by
 unfold Pit.num
 split
 ·rename_i h;exact h.2
 ·omega
theorem Afz (p:Pit):XC Tryz.prog 178 [.agg (Pit.c p)] (fun r=>r= .tup [dI p.num,dI p.err]):=by
 refine Ao Zv Tryz.func178 R R lb<|zr<|XL.step R (As 1 (l:= [.d (dI p.step), .d (dI p.alter), .d (dI p.oct)]) R R (by kernel_rfl))<|za R R<|za R R<|zn<|zs<|zr<|zp (Ae (s':= .d (.agg (Pit.c p))) (Ac (Ad R R Eq R lb)) (by kernel_rfl))<|XL.call1 R R (Ah7 _) R<|za R R<|znr<|zm R R<|zp (A9 R R R)<|?_
 refine zn<|?_
 refine zd R (fun c8=> ?_) (fun c8=> ?_)
 refine zr<|zm R R<|za R R<|za R R<|zn<|zt<|?_
 exact Bl R (RV.tmp R R) (RV.tmp R R) (r2 (rI (Pit.err_num c8).1) R)
 refine zi<|zs<|?_
 have hg:=Pit.of_err c8
 have hin:=hg.1
 refine Af (by kernel_rfl)<|zp (Ae (s':= .d (.agg (Pit.c p))) (Ac (Ad R R Eq R lb)) (by kernel_rfl))<|XL.call1 R R (T0 _ (by assumption)) R<|za R R<|za R R<|zn<|zt<|?_
 exact Bl R (RV.tmp R R) (RV.tmp R R) (r2 (rI (Pit.num_ok hg).symm) (rI (Pit.err_ok hg)))
theorem Pn (p:Pit):XC Tryz.prog 153 [.agg (Pit.c p)] (fun r=>r= .tup [dI p.num,dI p.err]):=by
 have hb:=p.num_bd
 refine Ao Aac Tryz.func153 R R lb<|zr<|XL.step R (As 1 (l:= [.d (dI p.step), .d (dI p.alter), .d (dI p.oct)]) R R (by kernel_rfl))<|za R R<|za R R<|znr<|zp (Ae (s':= .d (.agg (Pit.c p))) (Ac (Ad R R Eq R lb)) (by kernel_rfl))<|XL.call1 R R (Afz _) R<|zm R R<|zp (A6 R R R)<|zp (A6 R R R)<|za R R<|za R R<|zn<|?_
 refine zs<|zr<|zm R R<|zp (A9 R R R)<|zm R R<|?_
 refine XL.dec 13 R (fun g13=> ?_) (fun g13=> ?_)
 refine zk 2 R<|zq R R R<|zm R R<|zk 2 R<|zq R R R<|zn<|An (by kernel_rfl) R<|zr<|za R R<|za R R<|zn<|zt<|?_
 exact Bl R (RV.tmp R R) (RV.tmp R R) (r2 (rI (Pit.err_num g13).1) (rI (Pit.err_num g13).2.symm))
 refine zm R R<|zp (Aq R R R)<|zq R R R<|zm R R<|?_
 refine XL.dec 17 R (fun g17=> ?_) (fun g17=> ?_)
 refine zk 2 R<|zq R R R<|zn<|An (by kernel_rfl) R<|zr<|za R R<|za R R<|zn<|zt<|?_
 exact Bl R (RV.tmp R R) (RV.tmp R R) (by exfalso;omega)
 refine zm R R<|zp (A5 R R R)<|zq R R R<|zn<|?_
 refine zd R (fun c20=> ?_) (fun c20=> ?_)
 refine zr<|za R R<|za R R<|zn<|zt<|?_
 exact Bl R (RV.tmp R R) (RV.tmp R R) (by exfalso;omega)
 refine zi<|zr<|zm R R<|za R R<|za R R<|zn<|zt<|?_
 exact Bl R (RV.tmp R R) (RV.tmp R R) (r2 R (rI (Pit.err_ok (Pit.of_err g13))))
end Go.Proofs.YtcihalbakenleaaGreat
namespace Go.Proofs.YtcihalbakenleaaGreat
open Go.RowKit
theorem F0 {P:Program} {w:World} (d t:Nat) (h:P.underlying t=some (.int .i64)) (a b:Int):(Op.equalIn (d+1) t (.int .i64 a) (.int .i64 b)).run P w= .ok (decide (a=b)) w:=by
 rw [run_equalIn_int w d t .i64 .i64 a b h];by_cases e:a=b<;>simp [e]
theorem Y9 {P:Program} {w:World} (d t:Nat) (h:P.underlying t=some .bool) (a b:Bool):(Op.equalIn (d+1) t (.bool a) (.bool b)).run P w= .ok (decide (a=b)) w:=by
 rw [run_equalIn_bool' w d t a b h];cases a<;>cases b<;>rfl
theorem Aoe {P:Program} {w:World} (d t:Nat) (h:P.underlying t=some .string) (a b:ByteArray):(Op.equalIn (d+1) t (.string a) (.string b)).run P w= .ok (decide (a.toList=b.toList)) w:=by
 rw [run_equalIn_string w d t a b h];by_cases e:a.toList=b.toList<;>simp [e]
theorem Hi {P:Program} {t:TypeId} {fs:Array Field} (h:P.underlying t=some (.struct fs)):P.fieldsOf t=fs:=by unfold Program.fieldsOf;rw [h]
theorem C8 {P:Program} {t:TypeId} (hs:scB P t=true) (w:World) {cs:Array Value} {off:Nat} {v:Value} (h:cs[off]? =some v):(part t cs off).run P w= .ok v w:=by
 unfold part;simp only [Sem.run_bind,scB.isAgg hs,Result.andThen_ok,Bool.false_eq_true,if_false,h,Sem.run_pure]
theorem W8 {P:Program} {t n:Nat} (hs:aggB P t n=true) (w:World) {cs ds:Array Value} {off:Nat} (h:cs.extract off (off+n)=ds):(part t cs off).run P w= .ok (.agg ds) w:=by
 unfold part;simp only [Sem.run_bind,(aggB.isAgg hs w).1,Result.andThen_ok,if_true,(aggB.isAgg hs w).2,h,Sem.run_pure]
section
variable {P:Program} {w:World} {d:Nat} {xs ys:Array Value} {f:Field} {fs:List Field} {a b:Value} {p q:Prop} [Decidable p] [Decidable q]
theorem Gg (hn : f.name ≠ "_") (ha : (part f.type xs f.offset).run P w = .ok a w) (hb : (part f.type ys f.offset).run P w = .ok b w) (he : (Op.equalIn d f.type a b).run P w = .ok (decide p) w) (hr : (Op.eqFields d xs ys fs).run P w = .ok (decide q) w) :
  (Op.eqFields d xs ys (f::fs)).run P w= .ok (decide (p∧q)) w:=by
 unfold Op.eqFields
 rw [if_pos hn]
 simp only [Sem.run_bind,ha,hb,he,Result.andThen_ok,Sem.run_ite,hr,Sem.run_pure]
 by_cases h:p<;>simp [h]
theorem La (hn : f.name ≠ "_") (ha : (part f.type xs f.offset).run P w = .ok a w) (hb : (part f.type ys f.offset).run P w = .ok b w) (he : (Op.equalIn d f.type a b).run P w = .ok (decide p) w) :
  (Op.eqFields d xs ys [f]).run P w= .ok (decide p) w:=by
 unfold Op.eqFields
 rw [if_pos hn]
 simp only [Sem.run_bind,ha,hb,he,Result.andThen_ok,Sem.run_ite,Op.eqFields,Sem.run_pure]
 by_cases h:p<;>simp [h]
end
theorem Ae6 (d:Nat) (w:World) (a0:Int) (a1:Int) (b0:Int) (b1:Int):(Op.equalIn (d+2) 54 (.agg #[.int .i64 a0, .int .i64 a1]) (.agg #[.int .i64 b0, .int .i64 b1])).run Tryz.prog w= .ok (decide (a0=b0∧a1=b1)) w:=by
 rw [show d+2=(d+1)+1 from rfl,run_equalIn_struct w (d+1) 54 _ _ (by kernel_rfl) (by kernel_rfl),Hi Tryz.underlying54]
 exact Gg (by decide) (C8 Ah w rfl) (C8 Ah w rfl) (F0 (d+0) 3 Tryz.underlying3 _ _) (La (by decide) (C8 Ah w rfl) (C8 Ah w rfl) (F0 (d+0) 3 Tryz.underlying3 _ _))
theorem Akg {t':TypeId} {o:Oper} {e:Operand→S} {h:Xh} {x y:Operand} {a0:Int} {a1:Int} {b0:Int} {b1:Int} (ho:o.op= .binOp .eql 54 x y t') (hx:e x= .d (.agg [.v (.int .i64 a0), .v (.int .i64 a1)])) (hy:e y= .d (.agg [.v (.int .i64 b0), .v (.int .i64 b1)])):Bf Tryz.prog o e h (.d (.v (.bool (decide (a0=b0∧a1=b1))))):=by
 refine Fy ho hx hy rfl rfl (by kernel_rfl) fun w=> ?_
 refine (run_eql_struct w 54 #[.int .i64 a0, .int .i64 a1] #[.int .i64 b0, .int .i64 b1]).trans ?_
 have hq:=Ae6 9998 w a0 a1 b0 b1
 simp only [Nat.reduceAdd] at hq
 rw [hq]
 simp only [Result.andThen_ok]
theorem Yg {t':TypeId} {o:Oper} {e:Operand→S} {h:Xh} {x y:Operand} {a0:Int} {a1:Int} {b0:Int} {b1:Int} (ho:o.op= .binOp .neq 54 x y t') (hx:e x= .d (.agg [.v (.int .i64 a0), .v (.int .i64 a1)])) (hy:e y= .d (.agg [.v (.int .i64 b0), .v (.int .i64 b1)])):Bf Tryz.prog o e h (.d (.v (.bool (decide (¬(a0=b0∧a1=b1)))))):=by
 refine Fy ho hx hy rfl rfl (by kernel_rfl) fun w=> ?_
 refine (run_neq_struct w 54 #[.int .i64 a0, .int .i64 a1] #[.int .i64 b0, .int .i64 b1]).trans ?_
 have hq:=Ae6 9998 w a0 a1 b0 b1
 simp only [Nat.reduceAdd] at hq
 rw [hq]
 simp only [Result.andThen_ok,decide_not]
theorem Ae5 (d:Nat) (w:World) (a0:Int) (a1:Int) (b0:Int) (b1:Int):(Op.equalIn (d+2) 56 (.agg #[.int .i64 a0, .int .i64 a1]) (.agg #[.int .i64 b0, .int .i64 b1])).run Tryz.prog w= .ok (decide (a0=b0∧a1=b1)) w:=by
 rw [show d+2=(d+1)+1 from rfl,run_equalIn_struct w (d+1) 56 _ _ (by kernel_rfl) (by kernel_rfl),Hi Tryz.underlying56]
 exact Gg (by decide) (C8 Ah w rfl) (C8 Ah w rfl) (F0 (d+0) 3 Tryz.underlying3 _ _) (La (by decide) (C8 Ah w rfl) (C8 Ah w rfl) (F0 (d+0) 3 Tryz.underlying3 _ _))
theorem O9 {t':TypeId} {o:Oper} {e:Operand→S} {h:Xh} {x y:Operand} {a0:Int} {a1:Int} {b0:Int} {b1:Int} (ho:o.op= .binOp .eql 56 x y t') (hx:e x= .d (.agg [.v (.int .i64 a0), .v (.int .i64 a1)])) (hy:e y= .d (.agg [.v (.int .i64 b0), .v (.int .i64 b1)])):Bf Tryz.prog o e h (.d (.v (.bool (decide (a0=b0∧a1=b1))))):=by
 refine Fy ho hx hy rfl rfl (by kernel_rfl) fun w=> ?_
 refine (run_eql_struct w 56 #[.int .i64 a0, .int .i64 a1] #[.int .i64 b0, .int .i64 b1]).trans ?_
 have hq:=Ae5 9998 w a0 a1 b0 b1
 simp only [Nat.reduceAdd] at hq
 rw [hq]
 simp only [Result.andThen_ok]
theorem Akc {t':TypeId} {o:Oper} {e:Operand→S} {h:Xh} {x y:Operand} {a0:Int} {a1:Int} {b0:Int} {b1:Int} (ho:o.op= .binOp .neq 56 x y t') (hx:e x= .d (.agg [.v (.int .i64 a0), .v (.int .i64 a1)])) (hy:e y= .d (.agg [.v (.int .i64 b0), .v (.int .i64 b1)])):Bf Tryz.prog o e h (.d (.v (.bool (decide (¬(a0=b0∧a1=b1)))))):=by
 refine Fy ho hx hy rfl rfl (by kernel_rfl) fun w=> ?_
 refine (run_neq_struct w 56 #[.int .i64 a0, .int .i64 a1] #[.int .i64 b0, .int .i64 b1]).trans ?_
 have hq:=Ae5 9998 w a0 a1 b0 b1
 simp only [Nat.reduceAdd] at hq
 rw [hq]
 simp only [Result.andThen_ok,decide_not]
theorem Rk (d:Nat) (w:World) (a0:Int) (a1:Int) (a2:Int) (b0:Int) (b1:Int) (b2:Int):(Op.equalIn (d+2) 89 (.agg #[.int .i64 a0, .int .i64 a1, .int .i64 a2]) (.agg #[.int .i64 b0, .int .i64 b1, .int .i64 b2])).run Tryz.prog w= .ok (decide (a0=b0∧a1=b1∧a2=b2)) w:=by
 rw [show d+2=(d+1)+1 from rfl,run_equalIn_struct w (d+1) 89 _ _ (by kernel_rfl) (by kernel_rfl),Hi Tryz.underlying89]
 exact Gg (by decide) (C8 Ah w rfl) (C8 Ah w rfl) (F0 (d+0) 3 Tryz.underlying3 _ _) (Gg (by decide) (C8 Ah w rfl) (C8 Ah w rfl) (F0 (d+0) 3 Tryz.underlying3 _ _) (La (by decide) (C8 Ah w rfl) (C8 Ah w rfl) (F0 (d+0) 3 Tryz.underlying3 _ _)))
theorem Yh {t':TypeId} {o:Oper} {e:Operand→S} {h:Xh} {x y:Operand} {a0:Int} {a1:Int} {a2:Int} {b0:Int} {b1:Int} {b2:Int} (ho:o.op= .binOp .eql 89 x y t') (hx:e x= .d (.agg [.v (.int .i64 a0), .v (.int .i64 a1), .v (.int .i64 a2)])) (hy:e y= .d (.agg [.v (.int .i64 b0), .v (.int .i64 b1), .v (.int .i64 b2)])):Bf Tryz.prog o e h (.d (.v (.bool (decide (a0=b0∧a1=b1∧a2=b2))))):=by
 refine Fy ho hx hy rfl rfl (by kernel_rfl) fun w=> ?_
 refine (run_eql_struct w 89 #[.int .i64 a0, .int .i64 a1, .int .i64 a2] #[.int .i64 b0, .int .i64 b1, .int .i64 b2]).trans ?_
 have hq:=Rk 9998 w a0 a1 a2 b0 b1 b2
 simp only [Nat.reduceAdd] at hq
 rw [hq]
 simp only [Result.andThen_ok]
theorem Akb {t':TypeId} {o:Oper} {e:Operand→S} {h:Xh} {x y:Operand} {a0:Int} {a1:Int} {a2:Int} {b0:Int} {b1:Int} {b2:Int} (ho:o.op= .binOp .neq 89 x y t') (hx:e x= .d (.agg [.v (.int .i64 a0), .v (.int .i64 a1), .v (.int .i64 a2)])) (hy:e y= .d (.agg [.v (.int .i64 b0), .v (.int .i64 b1), .v (.int .i64 b2)])):Bf Tryz.prog o e h (.d (.v (.bool (decide (¬(a0=b0∧a1=b1∧a2=b2)))))):=by
 refine Fy ho hx hy rfl rfl (by kernel_rfl) fun w=> ?_
 refine (run_neq_struct w 89 #[.int .i64 a0, .int .i64 a1, .int .i64 a2] #[.int .i64 b0, .int .i64 b1, .int .i64 b2]).trans ?_
 have hq:=Rk 9998 w a0 a1 a2 b0 b1 b2
 simp only [Nat.reduceAdd] at hq
 rw [hq]
 simp only [Result.andThen_ok,decide_not]
theorem Aod (d:Nat) (w:World) (a0:Int) (a1:Int) (a2:Int) (a3:Bool) (a4:Int) (b0:Int) (b1:Int) (b2:Int) (b3:Bool) (b4:Int):(Op.equalIn (d+3) 91 (.agg #[.int .i64 a0, .int .i64 a1, .int .i64 a2, .bool a3, .int .i64 a4]) (.agg #[.int .i64 b0, .int .i64 b1, .int .i64 b2, .bool b3, .int .i64 b4])).run Tryz.prog w= .ok (decide ((a0=b0∧a1=b1∧a2=b2)∧a3=b3∧a4=b4)) w:=by
 rw [show d+3=(d+2)+1 from rfl,run_equalIn_struct w (d+2) 91 _ _ (by kernel_rfl) (by kernel_rfl),Hi Tryz.underlying91]
 exact Gg (by decide) (W8 Eq w rfl) (W8 Eq w rfl) (Rk (d) w _ _ _ _ _ _) (Gg (by decide) (C8 Jv w rfl) (C8 Jv w rfl) (Y9 (d+1) 4 Tryz.underlying4 _ _) (La (by decide) (C8 Ah w rfl) (C8 Ah w rfl) (F0 (d+1) 3 Tryz.underlying3 _ _)))
theorem Yf {t':TypeId} {o:Oper} {e:Operand→S} {h:Xh} {x y:Operand} {a0:Int} {a1:Int} {a2:Int} {a3:Bool} {a4:Int} {b0:Int} {b1:Int} {b2:Int} {b3:Bool} {b4:Int} (ho:o.op= .binOp .neq 91 x y t') (hx:e x= .d (.agg [.v (.int .i64 a0), .v (.int .i64 a1), .v (.int .i64 a2), .v (.bool a3), .v (.int .i64 a4)])) (hy:e y= .d (.agg [.v (.int .i64 b0), .v (.int .i64 b1), .v (.int .i64 b2), .v (.bool b3), .v (.int .i64 b4)])):Bf Tryz.prog o e h (.d (.v (.bool (decide (¬((a0=b0∧a1=b1∧a2=b2)∧a3=b3∧a4=b4)))))):=by
 refine Fy ho hx hy rfl rfl (by kernel_rfl) fun w=> ?_
 refine (run_neq_struct w 91 #[.int .i64 a0, .int .i64 a1, .int .i64 a2, .bool a3, .int .i64 a4] #[.int .i64 b0, .int .i64 b1, .int .i64 b2, .bool b3, .int .i64 b4]).trans ?_
 have hq:=Aod 9997 w a0 a1 a2 a3 a4 b0 b1 b2 b3 b4
 simp only [Nat.reduceAdd] at hq
 rw [hq]
 simp only [Result.andThen_ok,decide_not]
theorem Alg (d:Nat) (w:World) (a0:Int) (a1:Int) (a2:Int) (a3:Int) (b0:Int) (b1:Int) (b2:Int) (b3:Int):(Op.equalIn (d+2) 102 (.agg #[.int .i64 a0, .int .i64 a1, .int .i64 a2, .int .i64 a3]) (.agg #[.int .i64 b0, .int .i64 b1, .int .i64 b2, .int .i64 b3])).run Tryz.prog w= .ok (decide (a0=b0∧a1=b1∧a2=b2∧a3=b3)) w:=by
 rw [show d+2=(d+1)+1 from rfl,run_equalIn_struct w (d+1) 102 _ _ (by kernel_rfl) (by kernel_rfl),Hi Tryz.underlying102]
 exact Gg (by decide) (C8 Ah w rfl) (C8 Ah w rfl) (F0 (d+0) 3 Tryz.underlying3 _ _) (Gg (by decide) (C8 Ah w rfl) (C8 Ah w rfl) (F0 (d+0) 3 Tryz.underlying3 _ _) (Gg (by decide) (C8 Ah w rfl) (C8 Ah w rfl) (F0 (d+0) 3 Tryz.underlying3 _ _) (La (by decide) (C8 Ah w rfl) (C8 Ah w rfl) (F0 (d+0) 3 Tryz.underlying3 _ _))))
theorem Ah8 {t':TypeId} {o:Oper} {e:Operand→S} {h:Xh} {x y:Operand} {a0:Int} {a1:Int} {a2:Int} {a3:Int} {b0:Int} {b1:Int} {b2:Int} {b3:Int} (ho:o.op= .binOp .neq 102 x y t') (hx:e x= .d (.agg [.v (.int .i64 a0), .v (.int .i64 a1), .v (.int .i64 a2), .v (.int .i64 a3)])) (hy:e y= .d (.agg [.v (.int .i64 b0), .v (.int .i64 b1), .v (.int .i64 b2), .v (.int .i64 b3)])):Bf Tryz.prog o e h (.d (.v (.bool (decide (¬(a0=b0∧a1=b1∧a2=b2∧a3=b3)))))):=by
 refine Fy ho hx hy rfl rfl (by kernel_rfl) fun w=> ?_
 refine (run_neq_struct w 102 #[.int .i64 a0, .int .i64 a1, .int .i64 a2, .int .i64 a3] #[.int .i64 b0, .int .i64 b1, .int .i64 b2, .int .i64 b3]).trans ?_
 have hq:=Alg 9998 w a0 a1 a2 a3 b0 b1 b2 b3
 simp only [Nat.reduceAdd] at hq
 rw [hq]
 simp only [Result.andThen_ok,decide_not]
theorem Alf (d:Nat) (w:World) (a0:Int) (a1:Int) (a2:Int) (a3:Int) (a4:Bool) (b0:Int) (b1:Int) (b2:Int) (b3:Int) (b4:Bool):(Op.equalIn (d+3) 138 (.agg #[.int .i64 a0, .int .i64 a1, .int .i64 a2, .int .i64 a3, .bool a4]) (.agg #[.int .i64 b0, .int .i64 b1, .int .i64 b2, .int .i64 b3, .bool b4])).run Tryz.prog w= .ok (decide ((a0=b0∧a1=b1∧a2=b2)∧a3=b3∧a4=b4)) w:=by
 rw [show d+3=(d+2)+1 from rfl,run_equalIn_struct w (d+2) 138 _ _ (by kernel_rfl) (by kernel_rfl),Hi Tryz.underlying138]
 exact Gg (by decide) (W8 Eq w rfl) (W8 Eq w rfl) (Rk (d) w _ _ _ _ _ _) (Gg (by decide) (C8 Ah w rfl) (C8 Ah w rfl) (F0 (d+1) 3 Tryz.underlying3 _ _) (La (by decide) (C8 Jv w rfl) (C8 Jv w rfl) (Y9 (d+1) 4 Tryz.underlying4 _ _)))
theorem Vy {t':TypeId} {o:Oper} {e:Operand→S} {h:Xh} {x y:Operand} {a0:Int} {a1:Int} {a2:Int} {a3:Int} {a4:Bool} {b0:Int} {b1:Int} {b2:Int} {b3:Int} {b4:Bool} (ho:o.op= .binOp .neq 138 x y t') (hx:e x= .d (.agg [.v (.int .i64 a0), .v (.int .i64 a1), .v (.int .i64 a2), .v (.int .i64 a3), .v (.bool a4)])) (hy:e y= .d (.agg [.v (.int .i64 b0), .v (.int .i64 b1), .v (.int .i64 b2), .v (.int .i64 b3), .v (.bool b4)])):Bf Tryz.prog o e h (.d (.v (.bool (decide (¬((a0=b0∧a1=b1∧a2=b2)∧a3=b3∧a4=b4)))))):=by
 refine Fy ho hx hy rfl rfl (by kernel_rfl) fun w=> ?_
 refine (run_neq_struct w 138 #[.int .i64 a0, .int .i64 a1, .int .i64 a2, .int .i64 a3, .bool a4] #[.int .i64 b0, .int .i64 b1, .int .i64 b2, .int .i64 b3, .bool b4]).trans ?_
 have hq:=Alf 9997 w a0 a1 a2 a3 a4 b0 b1 b2 b3 b4
 simp only [Nat.reduceAdd] at hq
 rw [hq]
 simp only [Result.andThen_ok,decide_not]
theorem Y8 (d:Nat) (w:World) (a0:ByteArray) (a1:Int) (b0:ByteArray) (b1:Int):(Op.equalIn (d+2) 140 (.agg #[.string a0, .int .i64 a1]) (.agg #[.string b0, .int .i64 b1])).run Tryz.prog w= .ok (decide (a0.toList=b0.toList∧a1=b1)) w:=by
 rw [show d+2=(d+1)+1 from rfl,run_equalIn_struct w (d+1) 140 _ _ (by kernel_rfl) (by kernel_rfl),Hi Tryz.underlying140]
 exact Gg (by decide) (C8 Kx w rfl) (C8 Kx w rfl) (Aoe (d+0) 9 Tryz.underlying9 _ _) (La (by decide) (C8 Ah w rfl) (C8 Ah w rfl) (F0 (d+0) 3 Tryz.underlying3 _ _))
theorem Aib {t':TypeId} {o:Oper} {e:Operand→S} {h:Xh} {x y:Operand} {a0:ByteArray} {a1:Int} {b0:ByteArray} {b1:Int} (ho:o.op= .binOp .eql 140 x y t') (hx:e x= .d (.agg [.v (.string a0), .v (.int .i64 a1)])) (hy:e y= .d (.agg [.v (.string b0), .v (.int .i64 b1)])):Bf Tryz.prog o e h (.d (.v (.bool (decide (a0.toList=b0.toList∧a1=b1))))):=by
 refine Fy ho hx hy rfl rfl (by kernel_rfl) fun w=> ?_
 refine (run_eql_struct w 140 #[.string a0, .int .i64 a1] #[.string b0, .int .i64 b1]).trans ?_
 have hq:=Y8 9998 w a0 a1 b0 b1
 simp only [Nat.reduceAdd] at hq
 rw [hq]
 simp only [Result.andThen_ok]
theorem Vx {t':TypeId} {o:Oper} {e:Operand→S} {h:Xh} {x y:Operand} {a0:ByteArray} {a1:Int} {b0:ByteArray} {b1:Int} (ho:o.op= .binOp .neq 140 x y t') (hx:e x= .d (.agg [.v (.string a0), .v (.int .i64 a1)])) (hy:e y= .d (.agg [.v (.string b0), .v (.int .i64 b1)])):Bf Tryz.prog o e h (.d (.v (.bool (decide (¬(a0.toList=b0.toList∧a1=b1)))))):=by
 refine Fy ho hx hy rfl rfl (by kernel_rfl) fun w=> ?_
 refine (run_neq_struct w 140 #[.string a0, .int .i64 a1] #[.string b0, .int .i64 b1]).trans ?_
 have hq:=Y8 9998 w a0 a1 b0 b1
 simp only [Nat.reduceAdd] at hq
 rw [hq]
 simp only [Result.andThen_ok,decide_not]
end Go.Proofs.YtcihalbakenleaaGreat
namespace Go.Proofs.YtcihalbakenleaaGreat
open Go.RowKit
def Bk (n m:Int):Int:=if n<0∨m<n then 2 else 0
theorem S7 {n m:Int} (h:n<0∨m<n):2=Bk n m:=by rw [Bk,if_pos h]
theorem Aff {n m:Int} (h:¬n<0) (h':¬m<n):0=Bk n m:=by rw [Bk,if_neg (by omega)]
theorem Cs (n m:Int):XC Tryz.prog 116 [.v (.int .i64 n), .v (.int .i64 m)] (fun r=>r=dI (Bk n m)):=by
 refine Ao Aa8 Tryz.func116 R R lb<|zr<|za R R<|zn<|zs<|zr<|zm R R<|zp (Aq R R R)<|zm R R<|?_
 refine XL.dec 7 R (fun g7=> ?_) (fun g7=> ?_)
 exact zk 3 R<|zq R R R<|zn<|An (by kernel_rfl) R<|zr<|za R R<|zn<|zt<|z1 R R (rI (S7 (by omega)))
 refine zm R R<|zm R R<|zp (A5 R R R)<|zq R R R<|zn<|?_
 refine zd R (fun c11=> ?_) (fun c11=> ?_)
 exact zr<|za R R<|zn<|zt<|z1 R R (rI (S7 (by omega)))
 exact zi<|zr<|za R R<|zn<|zt<|z1 R R (rI (Aff g7 c11))
def Cq:List Int→Int
 | []=>0
 |e::l=>if e≠0 then e else Cq l
theorem Acd {l:List Int} {k:Nat} {x:Int} (h:l[k]? =some x) (hx:¬x≠0):Cq (l.drop k)=Cq (l.drop (k+1)):=by rw [Cj h,Cq,if_neg hx]
theorem Agk {l:List Int} {k:Nat} {x:Int} (h:l[k]? =some x) (hx:x≠0):Cq (l.drop k)=x:=by rw [Cj h,Cq,if_pos hx]
theorem Agl {l:List Int} {k:Nat} (h:k=l.length):Cq (l.drop k)=0:=by rw [h,List.drop_length];rfl
theorem Jb (l:List Int):XC Tryz.prog 115 [.sl 1 (B4 l)] (fun r=>r=dI (Cq l)):=by
 refine Ao Aa9 Tryz.func115 R R lb<|zr<|za R R<|zn<|zs<|zr<|zm R R<|XL.len R R R Tryz.underlying180 fun hl6=>zm R R<|zn<|Ai<|?_
 refine Av (α:=Nat) (fun k=>k≤l.length∧Cq (l.drop k)=Cq l) (fun k=>mkF [(5, .d (.sl 1 (B4 l))),(6, .d (dI l.length)),(7, .d (dI k))]) (fun k=>mkH []) (fun k=>l.length - k) (0) (⟨Nat.zero_le _,by rw [List.drop_zero]⟩) ?_ ?_ ?_
 exact fz ⟨sr,sr,sr,trivial⟩
 exact HSub.nil
 intro k hk0
 obtain ⟨hk,hf⟩:=hk0
 refine zr<|zp (Aq R R R)<|zn<|zs<|?_
 refine zd R (fun c8=> ?_) (fun c8=> ?_)
 have hk0a:k<l.length:=by omega
 obtain ⟨x0,hx0⟩:=Ap hk0a
 refine zi<|zs<|Ai<|zr<|zp (Am R R R Aqe hx0)<|zp (Aw R R Aq1)<|za R R<|znr<|zm R R<|zp (A9 R R R)<|zn<|?_
 refine zd R (fun c12=> ?_) (fun c12=> ?_)
 exact zr<|zm R R<|za R R<|zn<|zt<|z1 R R (rI (by rw [←hf,Agk hx0 c12]))
 refine zi<|Af (by kernel_rfl)<|zp (Ak R R R (by omega) (by omega))<|zm R R<|zn<|?_
 exact Al (k+1) (⟨by omega,by rw [←Acd hx0 c12];exact hf⟩) (by omega) (fz ⟨sr,sr,sr,trivial⟩) (HSub.nil)
 have hk0b:k=l.length:=by omega
 exact At<|zr<|za R R<|zn<|zt<|z1 R R (rI (by rw [←hf,Agl hk0b]))
def Hj (h:Hd):Int:=Cq [h.p.err,Bk h.sh 2]
theorem Amo (h:Hd):XC Tryz.prog 152 [.agg (Hd.c h)] (fun r=>r=dI (Hj h)):=by
 refine Ao Aad Tryz.func152 R R lb<|zr<|XL.step R (As 1 (l:= [.d (dI h.p.step), .d (dI h.p.alter), .d (dI h.p.oct), .d (dB h.tied), .d (dI h.sh)]) R R (by kernel_rfl))<|za R R<|znr<|zp (Ab R R Gy)<|zp (Ae (s':= .d (.agg (Pit.c h.p))) (Ac (Ad R R Eq R lb)) (by kernel_rfl))<|XL.call1 R R (Pn _) R<|zm R R<|zp (A6 R R R)<|zp (A6 R R R)<|?_
 exact za R R<|za R R<|znr<|zm R R<|zp (Ab R R S2)<|zp (Aa R R Ah R R)<|XL.call1 R R (Cs _ _) R<|XL.step R (J6 (l:=B4 [h.p.err,(Bk h.sh 2)]) R Tryz.underlying180 Nd J4 (by kernel_rfl) R (by omega) (by omega))<|XL.call1 R R (Jb _) R<|za R R<|zn<|zt<|z1 R R (R)
def Jh (l:List Hd):Int:=match l.getLast? with|some h=>h.p.num|none=> -1
theorem I6 {l:List Hd} {k:Nat} {x:Hd} (h:l[k]? =some x):Jh (l.take (k+1))=x.p.num:=by rw [Bp h,Jh,List.getLast?_concat]
def Eb (last:Int):List Hd→Int
 | []=>0
 |h::t=>if Hj h≠0 then Hj h else if h.p.num≤last then 25 else Eb h.p.num t
def Cf (l:List Hd):Int:=if l.length=0 then 4 else if 10<l.length then 9 else Eb (-1) l
theorem Hf {l:List Hd} (h1:¬(l.length:Int)=0) (h2:¬10<(l.length:Int)):Cf l=Eb (-1) l:=by rw [Cf,if_neg (by omega),if_neg (by omega)]
theorem Yy (l:List Hd):XC Tryz.prog 121 [.sl 5 (l.map Hd.c)] (fun r=>r=dI (Cf l)):=by
 refine Ao Aa3 Tryz.func121 R R lb<|zr<|za R R<|zn<|zs<|Ai<|zr<|zm R R<|XL.len R R R Tryz.underlying48 fun hl11=>zp (Az R R R)<|za R R<|zn<|?_
 refine zd R (fun c9=> ?_) (fun c9=> ?_)
 exact zr<|za R R<|zn<|zt<|z1 R R (rI (by rw [Cf,if_pos (by omega)]))
 refine zr<|zm R R<|XL.len R R R Tryz.underlying48 fun hl15=>zp (A5 R R R)<|za R R<|zn<|?_
 refine zd R (fun c13=> ?_) (fun c13=> ?_)
 exact zr<|za R R<|zn<|zt<|z1 R R (rI (by rw [Cf,if_neg (by omega),if_pos (by omega)]))
 refine zi<|zr<|za R R<|zn<|zs<|zr<|zm R R<|XL.len R R R Tryz.underlying48 fun hl18=>zm R R<|zn<|Ai<|?_
 refine Av (α:=Nat) (fun k=>k≤l.length∧Eb (Jh (l.take k)) (l.drop k)=Eb (-1) l) (fun k=>mkF [(3, .d (dI (Jh (l.take k)))),(17, .d (.sl 5 (l.map Hd.c))),(18, .d (dI l.length)),(19, .d (dI k))]) (fun k=>mkH []) (fun k=>l.length - k) (0) (⟨Nat.zero_le _,by rw [List.drop_zero];rfl⟩) ?_ ?_ ?_
 exact fz ⟨sr,sr,sr,sr,trivial⟩
 exact HSub.nil
 intro k hk1
 obtain ⟨hk,hf⟩:=hk1
 refine zr<|zp (Aq R R R)<|zn<|zs<|?_
 refine zd R (fun c20=> ?_) (fun c20=> ?_)
 have hk1a:k<l.length:=by omega
 obtain ⟨x1,hx1⟩:=Ap hk1a
 rw [Cj hx1,Eb] at hf
 refine zi<|zs<|Ai<|zr<|zp (Am R R R Gd hx1)<|zp (Ae (s':= .d (.agg (Hd.c x1))) (Ar R R Kr lb) (by kernel_rfl))<|XL.step R (A0 5 (l:= [.d (dI 0), .d (dI 0), .d (dI 0), .d (dB false), .d (dI 0)]) R Md (by kernel_rfl))<|?_
 refine XL.step R (Ag (l':= [.d (dI x1.p.step), .d (dI x1.p.alter), .d (dI x1.p.oct), .d (dB x1.tied), .d (dI x1.sh)]) R R R R Tk R lb (by kernel_rfl))<|zn<|zs<|zr<|zp (Ae (s':= .d (.agg (Hd.c x1))) (Ac (Ad R R Kr R lb)) (by kernel_rfl))<|XL.call1 R R (Amo _) R<|za R R<|znr<|zm R R<|zp (A9 R R R)<|zn<|?_
 refine zd R (fun c26=> ?_) (fun c26=> ?_)
 exact zr<|zm R R<|za R R<|zn<|zt<|z1 R R (rI (by rw [Hf c9 c13, ←hf,if_pos c26]))
 refine zi<|zr<|zp (Ab R R Gy)<|zp (Ae (s':= .d (.agg (Pit.c x1.p))) (Ac (Ad R R Eq R lb)) (by kernel_rfl))<|XL.call1 R R (Pn _) R<|zm R R<|zp (A6 R R R)<|zp (A6 R R R)<|za R R<|za R R<|zn<|zs<|zr<|zm R R<|?_
 refine zm R R<|zp (Ha R R R)<|zn<|?_
 refine zd R (fun c36=> ?_) (fun c36=> ?_)
 exact zr<|za R R<|zn<|zt<|z1 R R (rI (by rw [Hf c9 c13, ←hf,if_neg c26,if_pos c36]))
 refine zi<|Af (by kernel_rfl)<|zm R R<|za R R<|zn<|Af (by kernel_rfl)<|zp (Ak R R R (by omega) (by omega))<|zm R R<|zn<|?_
 exact Al (k+1) (⟨by omega,by rw [if_neg c26,if_neg c36] at hf;rw [I6 hx1];exact hf⟩) (by omega) (fz ⟨.same (sI (I6 hx1).symm),sr,sr,sr,trivial⟩) (HSub.nil)
 have hk1b:k=l.length:=by omega
 exact At<|zr<|za R R<|zn<|zt<|z1 R R (rI (by rw [Hf c9 c13, ←hf,hk1b,List.drop_length];rfl))
def Ii:List Gr→Int
 | []=>0
 |g::t=>if g.p.err≠0 then g.p.err else if g.log<1∨6<g.log then 2 else Ii t
def E0 (l:List Gr):Int:=if 8<l.length then 9 else Ii l
theorem Gx {l:List Gr} (h2:¬8<(l.length:Int)):E0 l=Ii l:=by rw [E0,if_neg (by omega)]
theorem Wn (l:List Gr):XC Tryz.prog 122 [.sl 5 (l.map Gr.c)] (fun r=>r=dI (E0 l)):=by
 refine Ao Aa2 Tryz.func122 R R lb<|zr<|za R R<|zn<|zs<|zr<|zm R R<|XL.len R R R Tryz.underlying57 fun hl8=>zp (A5 R R R)<|zn<|?_
 refine zd R (fun c9=> ?_) (fun c9=> ?_)
 exact zr<|za R R<|zn<|zt<|z1 R R (rI (by rw [E0,if_pos (by omega)]))
 refine zi<|zs<|zr<|zm R R<|XL.len R R R Tryz.underlying57 fun hl11=>zm R R<|zn<|Ai<|?_
 refine Av (α:=Nat) (fun k=>k≤l.length∧Ii (l.drop k)=Ii l) (fun k=>mkF [(10, .d (.sl 5 (l.map Gr.c))),(11, .d (dI l.length)),(12, .d (dI k))]) (fun k=>mkH []) (fun k=>l.length - k) (0) (⟨Nat.zero_le _,by rw [List.drop_zero]⟩) ?_ ?_ ?_
 exact fz ⟨sr,sr,sr,trivial⟩
 exact HSub.nil
 intro k hk0
 obtain ⟨hk,hf⟩:=hk0
 refine zr<|zp (Aq R R R)<|zn<|zs<|?_
 refine zd R (fun c13=> ?_) (fun c13=> ?_)
 have hk0a:k<l.length:=by omega
 obtain ⟨x0,hx0⟩:=Ap hk0a
 rw [Cj hx0,Ii] at hf
 refine zi<|zs<|Ai<|zr<|zp (Am R R R Po hx0)<|zp (Ae (s':= .d (.agg (Gr.c x0))) (Ar R R Ou lb) (by kernel_rfl))<|XL.step R (A0 4 (l:= [.d (dI 0), .d (dI 0), .d (dI 0), .d (dI 0), .d (dB false)]) R Xg (by kernel_rfl))<|?_
 refine XL.step R (Ag (l':= [.d (dI x0.p.step), .d (dI x0.p.alter), .d (dI x0.p.oct), .d (dI x0.log), .d (dB x0.slash)]) R R R R Ahe R lb (by kernel_rfl))<|zn<|zs<|zr<|zp (Ab R R Wo)<|zp (Ae (s':= .d (.agg (Pit.c x0.p))) (Ac (Ad R R Eq R lb)) (by kernel_rfl))<|XL.call1 R R (Pn _) R<|zm R R<|zp (A6 R R R)<|zp (A6 R R R)<|za R R<|za R R<|znr<|?_
 refine zm R R<|zp (A9 R R R)<|zn<|?_
 refine zd R (fun c23=> ?_) (fun c23=> ?_)
 exact zr<|zm R R<|za R R<|zn<|zt<|z1 R R (rI (by rw [Gx c9, ←hf,if_pos c23]))
 refine zi<|zr<|zp (Ab R R Qv)<|zp (Aa R R Ah R R)<|zp (Aq R R R)<|zm R R<|?_
 refine XL.dec 28 R (fun g28=> ?_) (fun g28=> ?_)
 exact zk 3 R<|zq R R R<|zn<|An (by kernel_rfl) R<|zr<|za R R<|zn<|zt<|z1 R R (rI (by rw [Gx c9, ←hf,if_neg c23,if_pos (by omega)]))
 refine zp (Ab R R Qv)<|zp (Aa R R Ah R R)<|zp (A5 R R R)<|zq R R R<|zn<|?_
 refine zd R (fun c32=> ?_) (fun c32=> ?_)
 exact zr<|za R R<|zn<|zt<|z1 R R (rI (by rw [Gx c9, ←hf,if_neg c23,if_pos (by omega)]))
 refine zi<|Af (by kernel_rfl)<|zp (Ak R R R (by omega) (by omega))<|zm R R<|zn<|?_
 exact Al (k+1) (⟨by omega,by rw [if_neg c23,if_neg (by omega)] at hf;exact hf⟩) (by omega) (fz ⟨sr,sr,sr,trivial⟩) (HSub.nil)
 have hk0b:k=l.length:=by omega
 exact At<|zr<|za R R<|zn<|zt<|z1 R R (rI (by rw [Gx c9, ←hf,hk0b,List.drop_length];rfl))
def G6 (b:UInt8):Prop:=(b.toNat:Int)<32∨(b.toNat:Int)=127
instance (b:UInt8):Decidable (G6 b):=by unfold G6;exact inferInstance
def F4 (s:Sy):Int:=if s.link<0∨2<s.link then 2 else if 256<s.text.length then 5 else if ∃b∈s.text,G6 b then 6 else if s.text= []∧s.link=1 then 3 else 0
theorem Ez (l:List UInt8):(ByteArray.mk l.toArray).size=l.length:=rfl
theorem Un {s:Sy} {k:Nat} {b:UInt8} (h1:¬s.link<0) (h2:¬2<s.link) (h3:¬256<(s.text.length:Int)) (h:s.text[k]? =some b) (hb:G6 b):6=F4 s:=by
 rw [F4,if_neg (by omega),if_neg (by omega),if_pos ⟨b,List.mem_of_getElem? h,hb⟩]
theorem Ad9 {s:Sy} (h1:¬s.link<0) (h2:¬2<s.link) (h3:¬256<(s.text.length:Int)) (h:∀j b,j<s.text.length→s.text[j]? =some b→¬G6 b):F4 s=if s.text= []∧s.link=1 then 3 else 0:=by
 rw [F4,if_neg (by omega),if_neg (by omega),if_neg]
 rintro ⟨b,hb,h4⟩
 obtain ⟨j,hj⟩:=List.getElem?_of_mem hb
 exact h j b (List.getElem?_eq_some_iff.1 hj).1 hj h4
theorem Kv {l:List UInt8}:((ByteArray.mk l.toArray).toList==(ByteArray.mk #[]).toList)=decide (l= []):=by
 rw [Lh,show (ByteArray.mk #[]).toList= [] from Lh []]
 by_cases h:l= []<;>simp [h]
end Go.Proofs.YtcihalbakenleaaGreat
namespace Go.Proofs.YtcihalbakenleaaGreat
open Go.RowKit
theorem Afc {b:UInt8} (h:(b.toNat:Int)<32):G6 b:= .inl h
theorem Abo {b:UInt8} (h:(b.toNat:Int)=127):G6 b:= .inr h
theorem Afb {b:UInt8} (h:¬(b.toNat:Int)<32) (h':¬(b.toNat:Int)=127):¬G6 b:=fun h2=>h2.elim h h'
theorem Aou (s:Sy):XC Tryz.prog 154 [.agg (Sy.c s)] (fun r=>r=dI (F4 s)):=by
 refine Ao Aab Tryz.func154 R R lb<|zr<|XL.step R (As 1 (l:= [.d (.v (.string ⟨s.text.toArray⟩)), .d (dI s.link)]) R R (by kernel_rfl))<|za R R<|zn<|zs<|Ai<|zr<|zp (Ab R R Ka)<|zp (Aa R R Ah R R)<|zp (Aq R R R)<|zm R R<|?_
 refine XL.dec 8 R (fun g8=> ?_) (fun g8=> ?_)
 exact zk 3 R<|zq R R R<|za R R<|zn<|An (by kernel_rfl) R<|zr<|za R R<|zn<|zt<|z1 R R (rI (by rw [F4,if_pos (by omega)]))
 refine zp (Ab R R Ka)<|zp (Aa R R Ah R R)<|zp (A5 R R R)<|zq R R R<|za R R<|zn<|?_
 refine zd R (fun c4=> ?_) (fun c4=> ?_)
 exact zr<|za R R<|zn<|zt<|z1 R R (rI (by rw [F4,if_pos (by omega)]))
 refine zr<|zp (Ab R R Ga)<|zp (Aa R R Kx R R)<|zp (Nk R R Tryz.underlying9)<|zp (A5 R R R)<|za R R<|zn<|?_
 refine zd R (fun c13=> ?_) (fun c13=> ?_)
 exact zr<|za R R<|zn<|zt<|z1 R R (rI (by rw [F4,if_neg (by omega),if_pos (by have:=c13;rw [Ez] at this;omega)]))
 refine zi<|zs<|zr<|zp (Ab R R Ga)<|zp (Aa R R Kx R R)<|zp (Nk R R Tryz.underlying9)<|zm R R<|zn<|Ai<|?_
 refine Av (α:=Nat) (fun k=>k≤s.text.length∧∀j b,j<k→s.text[j]? =some b→¬G6 b) (fun k=>mkF [(1, .ptr 1 0 0),(20, .d (dI s.text.length)),(21, .d (dI k))]) (fun k=>mkH [(1, .box ((Sy.c s).map S.d))]) (fun k=>s.text.length - k) (0) (⟨Nat.zero_le _,fun j b h=>absurd h (Nat.not_lt_zero _)⟩) ?_ ?_ ?_
 exact fz ⟨sr, .same (sI (by rw [Ez])),sr,trivial⟩
 exact gz ⟨R,trivial⟩
 intro k hk1
 obtain ⟨hk,hf⟩:=hk1
 refine zr<|zp (Aq R R R)<|zn<|zs<|?_
 refine zd R (fun c22=> ?_) (fun c22=> ?_)
 have hkl:k<s.text.length:=by omega
 have hsz:(s.text.length:Int)≤256:=by have:=c13;rw [Ez] at this;omega
 obtain ⟨b,hb⟩:=Ap hkl
 refine zi<|zs<|Ai<|zr<|zm R R<|za R R<|znr<|zp (Ab R R Ga)<|zp (Aa R R Kx R R)<|zm R R<|zp (T4 R R R Tryz.underlying9 (Oy hb))<|zp (Aq R R R)<|zm R R<|?_
 refine XL.dec 29 R (fun g29=> ?_) (fun g29=> ?_)
 exact zk 5 R<|zq R R R<|zn<|An (by kernel_rfl) R<|zr<|za R R<|zn<|zt<|z1 R R (rI (Un g8 c4 (by rw [←Ez];exact c13) hb (Afc g29)))
 refine zp (Ab R R Ga)<|zp (Aa R R Kx R R)<|zm R R<|zp (T4 R R R Tryz.underlying9 (Oy hb))<|zp (Az R R R)<|zq R R R<|zn<|?_
 refine zd R (fun c35=> ?_) (fun c35=> ?_)
 exact zr<|za R R<|zn<|zt<|z1 R R (rI (Un g8 c4 (by rw [←Ez];exact c13) hb (Abo c35)))
 refine zi<|Af (by kernel_rfl)<|zp (Ak R R R (by omega) (by omega))<|zm R R<|zn<|?_
 exact Al (k+1) (⟨by omega,fun j b' hj hb'=>by by_cases e:j=k;(· subst e;rw [hb] at hb';cases hb';exact Afb g29 c35);(· exact hf j b' (by omega) hb')⟩) (by omega) (fz ⟨sr,sr,sr,trivial⟩) (gz ⟨rfl,trivial⟩)
 have hke:k=s.text.length:=by omega
 have he:=Ad9 g8 c4 (by rw [←Ez];exact c13) (fun j b hj=>hf j b (by omega))
 refine At<|zs<|zr<|zp (Ab R R Ga)<|zp (Aa R R Kx R R)<|zp (Uu R R R)<|zm R R<|?_
 refine XL.bool 40 R (fun g40=> ?_) (fun g40=> ?_)
 refine zp (Ab R R Ka)<|zp (Aa R R Ah R R)<|zp (Az R R R)<|zq R R R<|zn<|?_
 refine zd R (fun c44=> ?_) (fun c44=> ?_)
 exact zr<|za R R<|zn<|zt<|z1 R R (rI (by rw [Kv] at g40;rw [he,if_pos ⟨of_decide_eq_true g40,c44⟩]))
 exact zi<|zr<|za R R<|zn<|zt<|z1 R R (rI (by rw [he,if_neg (fun h=>c44 h.2)]))
 exact zk 3 R<|zq R R R<|zn<|Bb (by kernel_rfl) R<|zi<|zr<|za R R<|zn<|zt<|z1 R R (rI (by rw [Kv] at g40;rw [he,if_neg (fun h=>of_decide_eq_false g40 h.1)]))
def Sy.none (s:Sy):Prop:=s.text= []∧s.link=0
instance (s:Sy):Decidable s.none:=by unfold Sy.none;exact inferInstance
theorem Ajk (s:Sy):XC Tryz.prog 155 [.agg (Sy.c s)] (fun r=>r=dB (decide s.none)):=by
 refine Ao Aaa Tryz.func155 R R lb<|zr<|XL.step R (As 1 (l:= [.d (.v (.string ⟨s.text.toArray⟩)), .d (dI s.link)]) R R (by kernel_rfl))<|za R R<|znr<|zp (Ae (s':= .d (.agg (Sy.c s))) (Ac (Ad R R Iq R lb)) (by kernel_rfl))<|zp (Ae (s':= .d (.agg [.v (.string ⟨#[]⟩),dI 0])) (Ac (Be R Am0 Ov R)) (by kernel_rfl))<|?_
 exact zp (Aib R R R)<|za R R<|zn<|zt<|z1 R R (rB (by rw [decide_eq_decide,Lh,show (ByteArray.mk #[]).toList= [] from Lh []];rfl))
def G3 (l:List Sy):Int:=Cq (l.map F4)
theorem Ph {l:List Sy} {k:Nat} {x:Sy} (h:l[k]? =some x) (hx:¬F4 x≠0):G3 (l.drop k)=G3 (l.drop (k+1)):=by rw [Cj h,G3,List.map_cons,Cq,if_neg hx];rfl
theorem We {l:List Sy} {k:Nat} {x:Sy} (h:l[k]? =some x) (hx:F4 x≠0):G3 (l.drop k)=F4 x:=by rw [Cj h,G3,List.map_cons,Cq,if_pos hx]
def Ih (l:List Sy):Prop:=match l.getLast? with|some s=>s.none|none=>False
instance (l:List Sy):Decidable (Ih l):=by unfold Ih;split<;>exact inferInstance
def Gw (l:List Sy):Int:=if 4<l.length then 9 else if G3 l≠0 then G3 l else if Ih l then 3 else 0
theorem Np {l:List Sy} (h1:¬4<(l.length:Int)):Gw l=if G3 l≠0 then G3 l else if Ih l then 3 else 0:=by rw [Gw,if_neg (by omega)]
theorem Lc {l:List Sy} {s:Sy} (h:l[l.length - 1]? =some s):Ih l↔s.none:=by unfold Ih;rw [List.getLast?_eq_getElem?,h]
theorem Qr {l:List Sy} (h:¬0<(l.length:Int)):¬Ih l:=by
 have:l= []:=List.eq_nil_of_length_eq_zero (by omega)
 subst this;exact fun h=>h
theorem Wd (l:List Sy):XC Tryz.prog 123 [.sl 2 (l.map Sy.c)] (fun r=>r=dI (Gw l)):=by
 refine Ao Aa1 Tryz.func123 R R lb<|zr<|za R R<|zn<|zs<|zr<|zm R R<|XL.len R R R Tryz.underlying58 fun hl8=>zp (A5 R R R)<|zn<|?_
 refine zd R (fun c9=> ?_) (fun c9=> ?_)
 exact zr<|za R R<|zn<|zt<|z1 R R (rI (by rw [Gw,if_pos (by omega)]))
 refine zi<|zs<|zr<|zm R R<|XL.len R R R Tryz.underlying58 fun hl11=>zm R R<|zn<|Ai<|?_
 refine Av (α:=Nat) (fun k=>k≤l.length∧G3 (l.drop k)=G3 l) (fun k=>mkF [(0, .d (.sl 2 (l.map Sy.c))),(10, .d (.sl 2 (l.map Sy.c))),(11, .d (dI l.length)),(12, .d (dI k))]) (fun k=>mkH []) (fun k=>l.length - k) (0) (⟨Nat.zero_le _,by rw [List.drop_zero]⟩) ?_ ?_ ?_
 exact fz ⟨sr,sr,sr,sr,trivial⟩
 exact HSub.nil
 intro k hk0
 obtain ⟨hk,hf⟩:=hk0
 refine zr<|zp (Aq R R R)<|zn<|zs<|?_
 refine zd R (fun c13=> ?_) (fun c13=> ?_)
 have hk0a:k<l.length:=by omega
 obtain ⟨x0,hx0⟩:=Ap hk0a
 refine zi<|zs<|Ai<|zr<|zp (Am R R R N0 hx0)<|zp (Ae (s':= .d (.agg (Sy.c x0))) (Ar R R Iq lb) (by kernel_rfl))<|XL.step R (A0 4 (l:= [.d (.v (.string ⟨#[]⟩)), .d (dI 0)]) R Ov (by kernel_rfl))<|XL.step R (Ag (l':= [.d (.v (.string ⟨x0.text.toArray⟩)), .d (dI x0.link)]) R R R R Xu R lb (by kernel_rfl))<|znr<|?_
 refine zp (Ae (s':= .d (.agg (Sy.c x0))) (Ac (Ad R R Iq R lb)) (by kernel_rfl))<|XL.call1 R R (Aou _) R<|za R R<|znr<|zm R R<|zp (A9 R R R)<|zn<|?_
 refine zd R (fun c19=> ?_) (fun c19=> ?_)
 exact zr<|zm R R<|za R R<|zn<|zt<|z1 R R (rI (by rw [Np c9, ←hf,We hx0 c19,if_pos c19]))
 refine zi<|Af (by kernel_rfl)<|zp (Ak R R R (by omega) (by omega))<|zm R R<|zn<|?_
 exact Al (k+1) (⟨by omega,by rw [←Ph hx0 c19];exact hf⟩) (by omega) (fz ⟨sr,sr,sr,sr,trivial⟩) (HSub.nil)
 have hk0b:k=l.length:=by omega
 have hz:G3 l=0:=by rw [←hf,hk0b,List.drop_length];rfl
 have hz2:Gw l=if Ih l then 3 else 0:=by rw [Np c9,hz,if_neg (by simp)]
 refine At<|zs<|zr<|zm R R<|XL.len R R R Tryz.underlying58 fun hl23=>za R R<|znr<|zm R R<|zp (A5 R R R)<|zm R R<|?_
 refine XL.dec 26 R (fun g26=> ?_) (fun g26=> ?_)
 obtain ⟨s,hs⟩:∃s,l[l.length - 1]? =some s:=Ap (by omega)
 refine zm R R<|zm R R<|zp (Di R R R (by omega) (by omega))<|zp (Eu R R R (by omega:(l.length:Int) - 1=((l.length - 1:Nat):Int)) N0 hs)<|zp (Ae (s':= .d (.agg (Sy.c s))) (Ar R R Iq lb) (by kernel_rfl))<|XL.call1 R R (Ajk _) R<|zq R R R<|zn<|?_
 refine zd R (fun c33=> ?_) (fun c33=> ?_)
 exact zr<|za R R<|zn<|zt<|z1 R R (rI (by rw [hz2,if_pos ((Lc hs).2 c33)]))
 exact zi<|zr<|za R R<|zn<|zt<|z1 R R (rI (by rw [hz2,if_neg (fun h=>c33 ((Lc hs).1 h))]))
 exact zk 6 R<|zq R R R<|zn<|Bb (by kernel_rfl) R<|zi<|zr<|za R R<|zn<|zt<|z1 R R (rI (by rw [hz2,if_neg (Qr g26)]))
theorem H4 {α:Type} {a b:List α} (hl:a.length=b.length) (h:∀j x y,j<a.length→a[j]? =some x→b[j]? =some y→x=y):a=b:=by
 refine List.ext_getElem? fun j=> ?_
 by_cases hj:j<a.length
 ·have h1:a[j]? =some a[j]:=List.getElem?_eq_getElem hj
  have h2 : b[j]? = some (b[j]'(by omega)) := List.getElem?_eq_getElem (by omega)
  rw [h1,h2,h j _ _ hj h1 h2]
 ·rw [List.getElem?_eq_none (by omega),List.getElem?_eq_none (by omega)]
theorem Rl {α:Type} [DecidableEq α] {a b:List α} (h:a≠b):false=decide (a=b):=by rw [decide_eq_false h]
theorem Za {α:Type} [DecidableEq α] {a b:List α} (h:a=b):true=decide (a=b):=by rw [decide_eq_true h]
theorem Hd.eq_of {x y:Hd} (h:¬ ¬((x.p.step=y.p.step∧x.p.alter=y.p.alter∧x.p.oct=y.p.oct)∧x.tied=y.tied∧x.sh=y.sh)):x=y:=by
 obtain ⟨⟨a,b,c⟩,d,e⟩:=x;obtain ⟨⟨a',b',c'⟩,d',e'⟩:=y;simp only [Decidable.not_not] at h;obtain ⟨⟨rfl,rfl,rfl⟩,rfl,rfl⟩:=h;rfl
theorem Hd.ne_of {x y:Hd} (h:¬((x.p.step=y.p.step∧x.p.alter=y.p.alter∧x.p.oct=y.p.oct)∧x.tied=y.tied∧x.sh=y.sh)):x≠y:=by rintro rfl;exact h ⟨⟨rfl,rfl,rfl⟩,rfl,rfl⟩
theorem Gr.eq_of {x y:Gr} (h:¬ ¬((x.p.step=y.p.step∧x.p.alter=y.p.alter∧x.p.oct=y.p.oct)∧x.log=y.log∧x.slash=y.slash)):x=y:=by
 obtain ⟨⟨a,b,c⟩,d,e⟩:=x;obtain ⟨⟨a',b',c'⟩,d',e'⟩:=y;simp only [Decidable.not_not] at h;obtain ⟨⟨rfl,rfl,rfl⟩,rfl,rfl⟩:=h;rfl
theorem Gr.ne_of {x y:Gr} (h:¬((x.p.step=y.p.step∧x.p.alter=y.p.alter∧x.p.oct=y.p.oct)∧x.log=y.log∧x.slash=y.slash)):x≠y:=by rintro rfl;exact h ⟨⟨rfl,rfl,rfl⟩,rfl,rfl⟩
theorem Sy.eq_of {x y:Sy} (h:¬ ¬((ByteArray.mk x.text.toArray).toList=(ByteArray.mk y.text.toArray).toList∧x.link=y.link)):x=y:=by
 obtain ⟨a,b⟩:=x;obtain ⟨a',b'⟩:=y;simp only [Decidable.not_not,Lh] at h;obtain ⟨rfl,rfl⟩:=h;rfl
theorem Sy.ne_of {x y:Sy} (h:¬((ByteArray.mk x.text.toArray).toList=(ByteArray.mk y.text.toArray).toList∧x.link=y.link)):x≠y:=by rintro rfl;exact h ⟨rfl,rfl⟩
theorem Ald (a b:List Hd):XC Tryz.prog 148 [.sl 5 (a.map Hd.c), .sl 5 (b.map Hd.c)] (fun r=>r=dB (decide (a=b))):=by
 refine Ao Aah Tryz.func148 R R lb<|zr<|za R R<|zn<|zs<|zr<|zm R R<|XL.len R R R Tryz.underlying48 fun hl7=>zm R R<|XL.len R R R Tryz.underlying48 fun hl9=>zp (A9 R R R)<|zn<|?_
 refine zd R (fun c10=> ?_) (fun c10=> ?_)
 exact zr<|za R R<|zn<|zt<|z1 R R (rB (Rl (fun h=>c10 (by rw [h]))))
 refine zi<|zs<|zr<|zm R R<|XL.len R R R Tryz.underlying48 fun hl12=>zm R R<|zn<|Ai<|?_
 refine Av (α:=Nat) (fun k=>k≤a.length∧∀j x y,j<k→a[j]? =some x→b[j]? =some y→x=y) (fun k=>mkF [(0, .d (.sl 5 (a.map Hd.c))),(1, .d (.sl 5 (b.map Hd.c))),(12, .d (dI a.length)),(13, .d (dI k))]) (fun k=>mkH []) (fun k=>a.length - k) (0) (⟨Nat.zero_le _,fun j x y h=>absurd h (Nat.not_lt_zero _)⟩) ?_ ?_ ?_
 exact fz ⟨sr,sr,sr,sr,trivial⟩
 exact HSub.nil
 intro k hk0
 obtain ⟨hk,hf⟩:=hk0
 refine zr<|zp (Aq R R R)<|zn<|zs<|?_
 refine zd R (fun c14=> ?_) (fun c14=> ?_)
 have hk0a:k<a.length:=by omega
 obtain ⟨x,hx0⟩:=Ap hk0a
 obtain ⟨y,hy⟩:∃y,b[k]? =some y:=Ap (by omega)
 refine zi<|zs<|Ai<|zr<|zm R R<|za R R<|zn<|zs<|Bg [] (by kernel_rfl) (by kernel_rfl) (by kernel_rfl) (by decide)<|ym R R<|ym R R<|yp (Am R R R Gd hx0)<|yp (Ae (s':= .d (.agg (Hd.c x))) (Ar R R Kr lb) (by kernel_rfl))<|ym R R<|?_
 refine ym R R<|yp (Am R R R Gd (hy))<|yp (Ae (s':= .d (.agg (Hd.c y))) (Ar R R Kr lb) (by kernel_rfl))<|yp (Yf R R R)<|?_
 refine ChK.nil ⟨by kernel_rfl, ?_⟩
 refine zd R (fun c24=> ?_) (fun c24=> ?_)
 exact zr<|za R R<|zn<|zt<|z1 R R (rB (Rl (fun h=>Hd.ne_of c24 (by rw [h] at hx0;rw [hx0] at hy;cases hy;rfl))))
 refine zi<|Af (by kernel_rfl)<|zp (Ak R R R (by omega) (by omega))<|zm R R<|zn<|?_
 exact Al (k+1) (⟨by omega,fun j x' y' hj hx' hy'=>by by_cases e:j=k;(· subst e;rw [hx0] at hx';rw [hy] at hy';cases hx';cases hy';exact Hd.eq_of c24);(· exact hf j x' y' (by omega) hx' hy')⟩) (by omega) (fz ⟨sr,sr,sr,sr,trivial⟩) (HSub.nil)
 have hk0b:k=a.length:=by omega
 exact At<|zr<|za R R<|zn<|zt<|z1 R R (rB (Za (H4 (by omega) (fun j x y hj=>hf j x y (by omega)))))
theorem Ale (a b:List Gr):XC Tryz.prog 149 [.sl 5 (a.map Gr.c), .sl 5 (b.map Gr.c)] (fun r=>r=dB (decide (a=b))):=by
 refine Ao Aag Tryz.func149 R R lb<|zr<|za R R<|zn<|zs<|zr<|zm R R<|XL.len R R R Tryz.underlying57 fun hl7=>zm R R<|XL.len R R R Tryz.underlying57 fun hl9=>zp (A9 R R R)<|zn<|?_
 refine zd R (fun c10=> ?_) (fun c10=> ?_)
 exact zr<|za R R<|zn<|zt<|z1 R R (rB (Rl (fun h=>c10 (by rw [h]))))
 refine zi<|zs<|zr<|zm R R<|XL.len R R R Tryz.underlying57 fun hl12=>zm R R<|zn<|Ai<|?_
 refine Av (α:=Nat) (fun k=>k≤a.length∧∀j x y,j<k→a[j]? =some x→b[j]? =some y→x=y) (fun k=>mkF [(0, .d (.sl 5 (a.map Gr.c))),(1, .d (.sl 5 (b.map Gr.c))),(12, .d (dI a.length)),(13, .d (dI k))]) (fun k=>mkH []) (fun k=>a.length - k) (0) (⟨Nat.zero_le _,fun j x y h=>absurd h (Nat.not_lt_zero _)⟩) ?_ ?_ ?_
 exact fz ⟨sr,sr,sr,sr,trivial⟩
 exact HSub.nil
 intro k hk0
 obtain ⟨hk,hf⟩:=hk0
 refine zr<|zp (Aq R R R)<|zn<|zs<|?_
 refine zd R (fun c14=> ?_) (fun c14=> ?_)
 have hk0a:k<a.length:=by omega
 obtain ⟨x,hx0⟩:=Ap hk0a
 obtain ⟨y,hy⟩:∃y,b[k]? =some y:=Ap (by omega)
 refine zi<|zs<|Ai<|zr<|zm R R<|za R R<|zn<|zs<|Bg [] (by kernel_rfl) (by kernel_rfl) (by kernel_rfl) (by decide)<|ym R R<|ym R R<|yp (Am R R R Po hx0)<|yp (Ae (s':= .d (.agg (Gr.c x))) (Ar R R Ou lb) (by kernel_rfl))<|ym R R<|?_
 refine ym R R<|yp (Am R R R Po (hy))<|yp (Ae (s':= .d (.agg (Gr.c y))) (Ar R R Ou lb) (by kernel_rfl))<|yp (Vy R R R)<|?_
 refine ChK.nil ⟨by kernel_rfl, ?_⟩
 refine zd R (fun c24=> ?_) (fun c24=> ?_)
 exact zr<|za R R<|zn<|zt<|z1 R R (rB (Rl (fun h=>Gr.ne_of c24 (by rw [h] at hx0;rw [hx0] at hy;cases hy;rfl))))
 refine zi<|Af (by kernel_rfl)<|zp (Ak R R R (by omega) (by omega))<|zm R R<|zn<|?_
 exact Al (k+1) (⟨by omega,fun j x' y' hj hx' hy'=>by by_cases e:j=k;(· subst e;rw [hx0] at hx';rw [hy] at hy';cases hx';cases hy';exact Gr.eq_of c24);(· exact hf j x' y' (by omega) hx' hy')⟩) (by omega) (fz ⟨sr,sr,sr,sr,trivial⟩) (HSub.nil)
 have hk0b:k=a.length:=by omega
 exact At<|zr<|za R R<|zn<|zt<|z1 R R (rB (Za (H4 (by omega) (fun j x y hj=>hf j x y (by omega)))))
theorem Alc (a b:List Sy):XC Tryz.prog 150 [.sl 2 (a.map Sy.c), .sl 2 (b.map Sy.c)] (fun r=>r=dB (decide (a=b))):=by
 refine Ao Aaf Tryz.func150 R R lb<|zr<|za R R<|zn<|zs<|zr<|zm R R<|XL.len R R R Tryz.underlying58 fun hl7=>zm R R<|XL.len R R R Tryz.underlying58 fun hl9=>zp (A9 R R R)<|zn<|?_
 refine zd R (fun c10=> ?_) (fun c10=> ?_)
 exact zr<|za R R<|zn<|zt<|z1 R R (rB (Rl (fun h=>c10 (by rw [h]))))
 refine zi<|zs<|zr<|zm R R<|XL.len R R R Tryz.underlying58 fun hl12=>zm R R<|zn<|Ai<|?_
 refine Av (α:=Nat) (fun k=>k≤a.length∧∀j x y,j<k→a[j]? =some x→b[j]? =some y→x=y) (fun k=>mkF [(0, .d (.sl 2 (a.map Sy.c))),(1, .d (.sl 2 (b.map Sy.c))),(12, .d (dI a.length)),(13, .d (dI k))]) (fun k=>mkH []) (fun k=>a.length - k) (0) (⟨Nat.zero_le _,fun j x y h=>absurd h (Nat.not_lt_zero _)⟩) ?_ ?_ ?_
 exact fz ⟨sr,sr,sr,sr,trivial⟩
 exact HSub.nil
 intro k hk0
 obtain ⟨hk,hf⟩:=hk0
 refine zr<|zp (Aq R R R)<|zn<|zs<|?_
 refine zd R (fun c14=> ?_) (fun c14=> ?_)
 have hk0a:k<a.length:=by omega
 obtain ⟨x,hx0⟩:=Ap hk0a
 obtain ⟨y,hy⟩:∃y,b[k]? =some y:=Ap (by omega)
 refine zi<|zs<|Ai<|zr<|zm R R<|za R R<|zn<|zs<|Bg [] (by kernel_rfl) (by kernel_rfl) (by kernel_rfl) (by decide)<|ym R R<|ym R R<|yp (Am R R R N0 hx0)<|yp (Ae (s':= .d (.agg (Sy.c x))) (Ar R R Iq lb) (by kernel_rfl))<|ym R R<|?_
 refine ym R R<|yp (Am R R R N0 (hy))<|yp (Ae (s':= .d (.agg (Sy.c y))) (Ar R R Iq lb) (by kernel_rfl))<|yp (Vx R R R)<|?_
 refine ChK.nil ⟨by kernel_rfl, ?_⟩
 refine zd R (fun c24=> ?_) (fun c24=> ?_)
 exact zr<|za R R<|zn<|zt<|z1 R R (rB (Rl (fun h=>Sy.ne_of c24 (by rw [h] at hx0;rw [hx0] at hy;cases hy;rfl))))
 refine zi<|Af (by kernel_rfl)<|zp (Ak R R R (by omega) (by omega))<|zm R R<|zn<|?_
 exact Al (k+1) (⟨by omega,fun j x' y' hj hx' hy'=>by by_cases e:j=k;(· subst e;rw [hx0] at hx';rw [hy] at hy';cases hx';cases hy';exact Sy.eq_of c24);(· exact hf j x' y' (by omega) hx' hy')⟩) (by omega) (fz ⟨sr,sr,sr,sr,trivial⟩) (HSub.nil)
 have hk0b:k=a.length:=by omega
 exact At<|zr<|za R R<|zn<|zt<|z1 R R (rB (Za (H4 (by omega) (fun j x y hj=>hf j x y (by omega)))))
theorem Ws (n:Int):XC Tryz.prog 117 [.v (.int .i64 n)] (fun r=>r=dB (decide (1≤n∧n≤4))):=by
 refine Ao Aa7 Tryz.func117 R R lb<|zr<|za R R<|znr<|zm R R<|zp (E4 R R R)<|zm R R<|?_
 refine XL.dec 5 R (fun g5=> ?_) (fun g5=> ?_)
 exact zm R R<|zp (Ha R R R)<|zq R R R<|za R R<|zn<|zt<|z1 R R (rB (by rw [decide_eq_decide];omega))
 exact zk 2 R<|zq R R R<|za R R<|zn<|zt<|z1 R R (rB (by rw [eq_comm,decide_eq_false_iff_not];omega))
def D3 (n:Int):Int:=if n<0 then 0 else if n / 16 % 2=1 then 16 else 0
theorem Ai7 {n:Int} (h:¬n<0):((n.toNat &&& (16:Int).toNat:Nat):Int)=D3 n:=by
 rw [show (16:Int).toNat=2 ^ 4 from rfl,Aoj,D3,if_neg h]
 split<;>split<;>omega
theorem Ae3 (n:Int) (hn:n≤9223372036854775807):XC Tryz.prog 151 [.v (.int .i64 n)] (fun r=>r=dI (D3 n)):=by
 refine Ao Aae Tryz.func151 R R lb<|zr<|za R R<|zn<|zs<|zr<|zm R R<|zp (Aq R R R)<|zn<|?_
 refine zd R (fun c4=> ?_) (fun c4=> ?_)
 exact zr<|za R R<|zn<|zt<|z1 R R (rI (by rw [D3,if_pos c4]))
 exact zi<|zr<|zm R R<|zp (Al2 R R R (by omega) (by omega) (by omega) (by omega))<|za R R<|zn<|zt<|z1 R R (rI (Ai7 c4))
end Go.Proofs.YtcihalbakenleaaGreat
namespace Go.Proofs.YtcihalbakenleaaGreat
open Go.RowKit
def Ev.same (a b:Ev):Prop:=a.kind=b.kind∧a.v=b.v∧a.art=b.art∧a.orn=b.orn∧a.dyn=b.dyn∧a.stem=b.stem∧a.beam=b.beam∧a.heads=b.heads∧a.graces=b.graces∧a.lyr=b.lyr
instance (a b:Ev):Decidable (a.same b):=by unfold Ev.same;exact inferInstance
theorem Val.eq_of {x y:Val} (h:x.log=y.log∧x.dots=y.dots):x=y:=by obtain ⟨a,b⟩:=x;obtain ⟨c,d⟩:=y;obtain ⟨rfl,rfl⟩:=h;rfl
theorem Dt {a b:Ev} (h:¬a.same b):false=decide (a.same b):=by rw [decide_eq_false h]
theorem Aed (a b:Ev):XC Tryz.prog 118 [.agg (Ev.c a), .agg (Ev.c b)] (fun r=>r=dB (decide (a.same b))):=by
 refine Ao Aa6 Tryz.func118 R R lb<|zr<|XL.step R (As 2 (l:= [.d (dI a.site), .d (dI a.num), .d (dI a.kind), .d (dI a.v.log), .d (dI a.v.dots), .d (.sl 5 (a.heads.map Hd.c)), .d (.sl 5 (a.graces.map Gr.c)), .d (dI a.art), .d (dI a.orn), .d (dI a.dyn), .d (.sl 2 (a.lyr.map Sy.c)), .d (dI a.stem), .d (dI a.beam)]) R R (by kernel_rfl))<|?_
 refine XL.step R (As 3 (l:= [.d (dI b.site), .d (dI b.num), .d (dI b.kind), .d (dI b.v.log), .d (dI b.v.dots), .d (.sl 5 (b.heads.map Hd.c)), .d (.sl 5 (b.graces.map Gr.c)), .d (dI b.art), .d (dI b.orn), .d (dI b.dyn), .d (.sl 2 (b.lyr.map Sy.c)), .d (dI b.stem), .d (dI b.beam)]) R R (by kernel_rfl))<|za R R<|znr<|zp (Ab R R Bn)<|zp (Aa R R Ah R R)<|?_
 refine zp (Ab R R Bn)<|zp (Aa R R Ah R R)<|zp (Az R R R)<|zm R R<|?_
 refine XL.dec 10 R (fun g10=> ?_) (fun g10=> ?_)
 refine zp (Ab R R Cz)<|zp (Ae (s':= .d (.agg (Val.c a.v))) (Ac (Ad R R Da R lb)) (by kernel_rfl))<|zp (Ab R R Cz)<|zp (Ae (s':= .d (.agg (Val.c b.v))) (Ac (Ad R R Da R lb)) (by kernel_rfl))<|zp (O9 R R R)<|zq R R R<|zm R R<|?_
 refine XL.dec 17 R (fun g17=> ?_) (fun g17=> ?_)
 refine zp (Ab R R Cy)<|zp (Aa R R Ah R R)<|zp (Ab R R Cy)<|zp (Aa R R Ah R R)<|zp (Az R R R)<|zq R R R<|zm R R<|?_
 refine XL.dec 24 R (fun g24=> ?_) (fun g24=> ?_)
 refine zp (Ab R R Gf)<|zp (Aa R R Ah R R)<|zp (Ab R R Gf)<|zp (Aa R R Ah R R)<|zp (Az R R R)<|zq R R R<|zm R R<|?_
 refine XL.dec 31 R (fun g31=> ?_) (fun g31=> ?_)
 refine zp (Ab R R Ef)<|zp (Aa R R Ah R R)<|zp (Ab R R Ef)<|zp (Aa R R Ah R R)<|zp (Az R R R)<|zq R R R<|zm R R<|?_
 refine XL.dec 38 R (fun g38=> ?_) (fun g38=> ?_)
 refine zp (Ab R R Ea)<|zp (Aa R R Ah R R)<|zp (Ab R R Ea)<|zp (Aa R R Ah R R)<|zp (Az R R R)<|zq R R R<|zm R R<|?_
 refine XL.dec 45 R (fun g45=> ?_) (fun g45=> ?_)
 refine zp (Ab R R Fl)<|zp (Aa R R Ah R R)<|zp (Ab R R Fl)<|zp (Aa R R Ah R R)<|zp (Az R R R)<|zq R R R<|zm R R<|?_
 refine XL.dec 52 R (fun g52=> ?_) (fun g52=> ?_)
 refine zp (Ab R R Bi)<|zp (Aa R R Cx R R)<|zp (Ab R R Bi)<|zp (Aa R R Cx R R)<|XL.call1 R R (Ald _ _) R<|zq R R R<|zm R R<|?_
 refine XL.dec 59 R (fun g59=> ?_) (fun g59=> ?_)
 refine zp (Ab R R Eg)<|zp (Aa R R It R R)<|zp (Ab R R Eg)<|zp (Aa R R It R R)<|XL.call1 R R (Ale _ _) R<|zq R R R<|zm R R<|?_
 refine XL.dec 66 R (fun g66=> ?_) (fun g66=> ?_)
 exact zp (Ab R R Ee)<|zp (Aa R R Is R R)<|zp (Ab R R Ee)<|zp (Aa R R Is R R)<|XL.call1 R R (Alc _ _) R<|zq R R R<|za R R<|zn<|zt<|z1 R R (rB (by rw [decide_eq_decide];exact ⟨fun h=>⟨g10,Val.eq_of g17,g24,g31,g38,g45,g52,g59,g66,h⟩,fun h=>h.2.2.2.2.2.2.2.2.2⟩))
 exact zk 5 R<|zq R R R<|za R R<|zn<|zt<|z1 R R (rB (Dt fun h=>g66 h.2.2.2.2.2.2.2.2.1))
 exact zk 5 R<|zq R R R<|zm R R<|zk 5 R<|zq R R R<|za R R<|zn<|zt<|z1 R R (rB (Dt fun h=>g59 h.2.2.2.2.2.2.2.1))
 exact zk 5 R<|zq R R R<|zm R R<|zk 5 R<|zq R R R<|zm R R<|zk 5 R<|zq R R R<|za R R<|zn<|zt<|z1 R R (rB (Dt fun h=>g52 h.2.2.2.2.2.2.1))
 exact zk 5 R<|zq R R R<|zm R R<|zk 5 R<|zq R R R<|zm R R<|zk 5 R<|zq R R R<|zm R R<|zk 5 R<|zq R R R<|za R R<|zn<|zt<|z1 R R (rB (Dt fun h=>g45 h.2.2.2.2.2.1))
 refine zk 5 R<|zq R R R<|zm R R<|zk 5 R<|zq R R R<|zm R R<|zk 5 R<|zq R R R<|zm R R<|zk 5 R<|zq R R R<|zm R R<|zk 5 R<|zq R R R<|?_
 exact za R R<|zn<|zt<|z1 R R (rB (Dt fun h=>g38 h.2.2.2.2.1))
 refine zk 5 R<|zq R R R<|zm R R<|zk 5 R<|zq R R R<|zm R R<|zk 5 R<|zq R R R<|zm R R<|zk 5 R<|zq R R R<|zm R R<|zk 5 R<|zq R R R<|?_
 exact zm R R<|zk 5 R<|zq R R R<|za R R<|zn<|zt<|z1 R R (rB (Dt fun h=>g31 h.2.2.2.1))
 refine zk 5 R<|zq R R R<|zm R R<|zk 5 R<|zq R R R<|zm R R<|zk 5 R<|zq R R R<|zm R R<|zk 5 R<|zq R R R<|zm R R<|zk 5 R<|zq R R R<|?_
 exact zm R R<|zk 5 R<|zq R R R<|zm R R<|zk 5 R<|zq R R R<|za R R<|zn<|zt<|z1 R R (rB (Dt fun h=>g24 h.2.2.1))
 refine zk 5 R<|zq R R R<|zm R R<|zk 5 R<|zq R R R<|zm R R<|zk 5 R<|zq R R R<|zm R R<|zk 5 R<|zq R R R<|zm R R<|zk 5 R<|zq R R R<|?_
 exact zm R R<|zk 5 R<|zq R R R<|zm R R<|zk 5 R<|zq R R R<|zm R R<|zk 5 R<|zq R R R<|za R R<|zn<|zt<|z1 R R (rB (Dt fun h=>g17 (by rw [h.2.1];exact ⟨rfl,rfl⟩)))
 refine zk 5 R<|zq R R R<|zm R R<|zk 5 R<|zq R R R<|zm R R<|zk 5 R<|zq R R R<|zm R R<|zk 5 R<|zq R R R<|zm R R<|zk 5 R<|zq R R R<|?_
 refine zm R R<|zk 5 R<|zq R R R<|zm R R<|zk 5 R<|zq R R R<|zm R R<|zk 5 R<|zq R R R<|zm R R<|zk 5 R<|zq R R R<|za R R<|zn<|?_
 exact zt<|z1 R R (rB (Dt fun h=>g10 h.1))
def Ev.strip (e:Ev):Ev:=
 if e.kind=1∨¬(1≤e.kind∧e.kind≤4) then e else
 ⟨e.site,e.num,e.kind,if e.kind≠3 then e.v else ⟨0,0⟩, [], [],if e.kind≠4 then D3 e.art else 0,0,e.dyn, [],0,0⟩
theorem Q8 {e:Ev} (h:e.kind=1):e=e.strip:=by rw [Ev.strip,if_pos (.inl h)]
theorem Amz {e:Ev} (h:¬(1≤e.kind∧e.kind≤4)):e=e.strip:=by rw [Ev.strip,if_pos (.inr h)]
theorem Amy {e:Ev} (h:¬e.kind=1) (h2:¬ ¬(1≤e.kind∧e.kind≤4)) (h3:e.kind≠3) (h4:e.kind≠4):(⟨e.site,e.num,e.kind,e.v, [], [],D3 e.art,0,e.dyn, [],0,0⟩:Ev)=e.strip:=by rw [Ev.strip,if_neg (by omega),if_pos h3,if_pos h4]
theorem Amx {e:Ev} (h:¬e.kind=1) (h2:¬ ¬(1≤e.kind∧e.kind≤4)) (h3:e.kind≠3) (h4:¬e.kind≠4):(⟨e.site,e.num,e.kind,e.v, [], [],0,0,e.dyn, [],0,0⟩:Ev)=e.strip:=by rw [Ev.strip,if_neg (by omega),if_pos h3,if_neg h4]
theorem Amw {e:Ev} (h:¬e.kind=1) (h2:¬ ¬(1≤e.kind∧e.kind≤4)) (h3:¬e.kind≠3) (h4:e.kind≠4):(⟨e.site,e.num,e.kind,⟨0,0⟩, [], [],D3 e.art,0,e.dyn, [],0,0⟩:Ev)=e.strip:=by rw [Ev.strip,if_neg (by omega),if_neg h3,if_pos h4]
theorem Bh {a b:Ev} (h:a=b):D.agg (Ev.c a)= .agg (Ev.c b):=by rw [h]
theorem Ajv (e:Ev) (he:e.art≤9223372036854775807):XC Tryz.prog 119 [.agg (Ev.c e)] (fun r=>r= .agg (Ev.c e.strip)):=by
 refine Ao Aa5 Tryz.func119 R R lb<|zr<|XL.step R (As 1 (l:= [.d (dI e.site), .d (dI e.num), .d (dI e.kind), .d (dI e.v.log), .d (dI e.v.dots), .d (.sl 5 (e.heads.map Hd.c)), .d (.sl 5 (e.graces.map Gr.c)), .d (dI e.art), .d (dI e.orn), .d (dI e.dyn), .d (.sl 2 (e.lyr.map Sy.c)), .d (dI e.stem), .d (dI e.beam)]) R R (by kernel_rfl))<|?_
 refine XL.step R (A0 2 (l:= [.d (dI 0), .d (dI 0), .d (dI 0), .d (dI 0), .d (dI 0), .d (.v (.slice none 0 0)), .d (.v (.slice none 0 0)), .d (dI 0), .d (dI 0), .d (dI 0), .d (.v (.slice none 0 0)), .d (dI 0), .d (dI 0)]) R Cm (by kernel_rfl))<|zn<|zs<|zr<|zp (Ab R R Bn)<|zp (Aa R R Ah R R)<|zp (Az R R R)<|zm R R<|?_
 refine XL.dec 7 R (fun g7=> ?_) (fun g7=> ?_)
 refine zk 4 R<|zq R R R<|zn<|An (by kernel_rfl) R<|zr<|zp (Ae (s':= .d (.agg (Ev.c e))) (Ac (Ad R R Ax R lb)) (by kernel_rfl))<|?_
 refine XL.step R (Ag (l':= [.d (dI e.site), .d (dI e.num), .d (dI e.kind), .d (dI e.v.log), .d (dI e.v.dots), .d (.sl 5 (e.heads.map Hd.c)), .d (.sl 5 (e.graces.map Gr.c)), .d (dI e.art), .d (dI e.orn), .d (dI e.dyn), .d (.sl 2 (e.lyr.map Sy.c)), .d (dI e.stem), .d (dI e.beam)]) R R R R Cd R lb (by kernel_rfl))<|zn<|zt<|?_
 exact F8 R (RV.cells R R R Ax lb R) (Bh (Q8 g7))
 refine zp (Ab R R Bn)<|zp (Aa R R Ah R R)<|XL.call1 R R (Ws _) R<|zp (Bo R R)<|zq R R R<|zn<|?_
 refine zd R (fun c12=> ?_) (fun c12=> ?_)
 refine zr<|zp (Ae (s':= .d (.agg (Ev.c e))) (Ac (Ad R R Ax R lb)) (by kernel_rfl))<|?_
 refine XL.step R (Ag (l':= [.d (dI e.site), .d (dI e.num), .d (dI e.kind), .d (dI e.v.log), .d (dI e.v.dots), .d (.sl 5 (e.heads.map Hd.c)), .d (.sl 5 (e.graces.map Gr.c)), .d (dI e.art), .d (dI e.orn), .d (dI e.dyn), .d (.sl 2 (e.lyr.map Sy.c)), .d (dI e.stem), .d (dI e.beam)]) R R R R Cd R lb (by kernel_rfl))<|zn<|zt<|?_
 exact F8 R (RV.cells R R R Ax lb R) (Bh (Amz c12))
 refine zi<|zr<|zp (Ab R R Ey)<|zp (Ae (s':= .d (.agg [dI e.site,dI e.num])) (Ac (Ad R R Ju R lb)) (by kernel_rfl))<|zp (Ab R R Bn)<|zp (Aa R R Ah R R)<|zp (Ab R R Ef)<|zp (Aa R R Ah R R)<|?_
 refine zp (Ae (s':= .d (.agg [dI e.site,dI e.num,dI e.kind,dI 0,dI 0, .v (.slice none 0 0), .v (.slice none 0 0),dI 0,dI 0,dI e.dyn, .v (.slice none 0 0),dI 0,dI 0])) (Ac (Be R Oh Cm R)) (by kernel_rfl))<|?_
 refine XL.step R (A0 3 (l:= [.d (dI 0), .d (dI 0), .d (dI 0), .d (dI 0), .d (dI 0), .d (.v (.slice none 0 0)), .d (.v (.slice none 0 0)), .d (dI 0), .d (dI 0), .d (dI 0), .d (.v (.slice none 0 0)), .d (dI 0), .d (dI 0)]) R Cm (by kernel_rfl))<|?_
 refine XL.step R (Ag (l':= [.d (dI e.site), .d (dI e.num), .d (dI e.kind), .d (dI 0), .d (dI 0), .d (.v (.slice none 0 0)), .d (.v (.slice none 0 0)), .d (dI 0), .d (dI 0), .d (dI e.dyn), .d (.v (.slice none 0 0)), .d (dI 0), .d (dI 0)]) R R R R Cd R lb (by kernel_rfl))<|zn<|zs<|zr<|zp (Ab R R Bn)<|zp (Aa R R Ah R R)<|zp (A9 R R R)<|zn<|?_
 refine zd R (fun c23=> ?_) (fun c23=> ?_)
 refine Af (by kernel_rfl)<|zp (Ab R R Cz)<|zp (Ae (s':= .d (.agg (Val.c e.v))) (Ac (Ad R R Da R lb)) (by kernel_rfl))<|zp (Ab R R Cz)<|?_
 refine XL.step R (Ag (l':= [.d (dI e.site), .d (dI e.num), .d (dI e.kind), .d (dI e.v.log), .d (dI e.v.dots), .d (.v (.slice none 0 0)), .d (.v (.slice none 0 0)), .d (dI 0), .d (dI 0), .d (dI e.dyn), .d (.v (.slice none 0 0)), .d (dI 0), .d (dI 0)]) R R R R F3 R lb (by kernel_rfl))<|zn<|zs<|zr<|zp (Ab R R Bn)<|zp (Aa R R Ah R R)<|zp (A9 R R R)<|zn<|?_
 refine zd R (fun c29=> ?_) (fun c29=> ?_)
 refine Af (by kernel_rfl)<|zp (Ab R R Cy)<|zp (Aa R R Ah R R)<|XL.call1 R R (Ae3 _ (by assumption)) R<|zp (Ab R R Cy)<|?_
 refine XL.step R (Ag (l':= [.d (dI e.site), .d (dI e.num), .d (dI e.kind), .d (dI e.v.log), .d (dI e.v.dots), .d (.v (.slice none 0 0)), .d (.v (.slice none 0 0)), .d (dI (D3 e.art)), .d (dI 0), .d (dI e.dyn), .d (.v (.slice none 0 0)), .d (dI 0), .d (dI 0)]) R R R R Df R lb (by kernel_rfl))<|znr<|?_
 refine zp (Ae (s':= .d (.agg [dI e.site,dI e.num,dI e.kind,dI e.v.log,dI e.v.dots, .v (.slice none 0 0), .v (.slice none 0 0),dI (D3 e.art),dI 0,dI e.dyn, .v (.slice none 0 0),dI 0,dI 0])) (Ac (Ad R R Ax R lb)) (by kernel_rfl))<|?_
 refine XL.step R (Ag (l':= [.d (dI e.site), .d (dI e.num), .d (dI e.kind), .d (dI e.v.log), .d (dI e.v.dots), .d (.v (.slice none 0 0)), .d (.v (.slice none 0 0)), .d (dI (D3 e.art)), .d (dI 0), .d (dI e.dyn), .d (.v (.slice none 0 0)), .d (dI 0), .d (dI 0)]) R R R R Cd R lb (by kernel_rfl))<|zn<|zt<|?_
 exact F8 R (RV.sub (RV.cells R R R Ax lb R) (.agg (.cons (.same R) (.cons (.same R) (.cons (.same R) (.cons (.same R) (.cons (.same R) (.cons (.nil 5) (.cons (.nil 5) (.cons (.same R) (.cons (.same R) (.cons (.same R) (.cons (.nil 2) (.cons (.same R) (.cons (.same R) (.nil)))))))))))))))) (Bh (Amy g7 c12 c23 c29))
 refine zi<|zr<|zp (Ae (s':= .d (.agg [dI e.site,dI e.num,dI e.kind,dI e.v.log,dI e.v.dots, .v (.slice none 0 0), .v (.slice none 0 0),dI 0,dI 0,dI e.dyn, .v (.slice none 0 0),dI 0,dI 0])) (Ac (Ad R R Ax R lb)) (by kernel_rfl))<|?_
 refine XL.step R (Ag (l':= [.d (dI e.site), .d (dI e.num), .d (dI e.kind), .d (dI e.v.log), .d (dI e.v.dots), .d (.v (.slice none 0 0)), .d (.v (.slice none 0 0)), .d (dI 0), .d (dI 0), .d (dI e.dyn), .d (.v (.slice none 0 0)), .d (dI 0), .d (dI 0)]) R R R R Cd R lb (by kernel_rfl))<|zn<|zt<|?_
 exact F8 R (RV.sub (RV.cells R R R Ax lb R) (.agg (.cons (.same R) (.cons (.same R) (.cons (.same R) (.cons (.same R) (.cons (.same R) (.cons (.nil 5) (.cons (.nil 5) (.cons (.same R) (.cons (.same R) (.cons (.same R) (.cons (.nil 2) (.cons (.same R) (.cons (.same R) (.nil)))))))))))))))) (Bh (Amx g7 c12 c23 c29))
 refine zi<|zs<|zr<|zp (Ab R R Bn)<|zp (Aa R R Ah R R)<|zp (A9 R R R)<|zn<|?_
 refine zd R (fun c29=> ?_) (fun c29=> ?_)
 refine Af (by kernel_rfl)<|zp (Ab R R Cy)<|zp (Aa R R Ah R R)<|XL.call1 R R (Ae3 _ (by assumption)) R<|zp (Ab R R Cy)<|?_
 refine XL.step R (Ag (l':= [.d (dI e.site), .d (dI e.num), .d (dI e.kind), .d (dI 0), .d (dI 0), .d (.v (.slice none 0 0)), .d (.v (.slice none 0 0)), .d (dI (D3 e.art)), .d (dI 0), .d (dI e.dyn), .d (.v (.slice none 0 0)), .d (dI 0), .d (dI 0)]) R R R R Df R lb (by kernel_rfl))<|znr<|?_
 refine zp (Ae (s':= .d (.agg [dI e.site,dI e.num,dI e.kind,dI 0,dI 0, .v (.slice none 0 0), .v (.slice none 0 0),dI (D3 e.art),dI 0,dI e.dyn, .v (.slice none 0 0),dI 0,dI 0])) (Ac (Ad R R Ax R lb)) (by kernel_rfl))<|?_
 refine XL.step R (Ag (l':= [.d (dI e.site), .d (dI e.num), .d (dI e.kind), .d (dI 0), .d (dI 0), .d (.v (.slice none 0 0)), .d (.v (.slice none 0 0)), .d (dI (D3 e.art)), .d (dI 0), .d (dI e.dyn), .d (.v (.slice none 0 0)), .d (dI 0), .d (dI 0)]) R R R R Cd R lb (by kernel_rfl))<|zn<|zt<|?_
 exact F8 R (RV.sub (RV.cells R R R Ax lb R) (.agg (.cons (.same R) (.cons (.same R) (.cons (.same R) (.cons (.same R) (.cons (.same R) (.cons (.nil 5) (.cons (.nil 5) (.cons (.same R) (.cons (.same R) (.cons (.same R) (.cons (.nil 2) (.cons (.same R) (.cons (.same R) (.nil)))))))))))))))) (Bh (Amw g7 c12 c23 c29))
 refine zi<|zr<|zp (Ae (s':= .d (.agg [dI e.site,dI e.num,dI e.kind,dI 0,dI 0, .v (.slice none 0 0), .v (.slice none 0 0),dI 0,dI 0,dI e.dyn, .v (.slice none 0 0),dI 0,dI 0])) (Ac (Ad R R Ax R lb)) (by kernel_rfl))<|?_
 refine XL.step R (Ag (l':= [.d (dI e.site), .d (dI e.num), .d (dI e.kind), .d (dI 0), .d (dI 0), .d (.v (.slice none 0 0)), .d (.v (.slice none 0 0)), .d (dI 0), .d (dI 0), .d (dI e.dyn), .d (.v (.slice none 0 0)), .d (dI 0), .d (dI 0)]) R R R R Cd R lb (by kernel_rfl))<|zn<|zt<|?_
 exact F8 R (RV.sub (RV.cells R R R Ax lb R) (.agg (.cons (.same R) (.cons (.same R) (.cons (.same R) (.cons (.same R) (.cons (.same R) (.cons (.nil 5) (.cons (.nil 5) (.cons (.same R) (.cons (.same R) (.cons (.same R) (.cons (.nil 2) (.cons (.same R) (.cons (.same R) (.nil)))))))))))))))) (by exfalso;omega)
def C1 (v:Val):Int:=if -1≤v.log∧v.log≤8∧0≤v.dots∧v.dots≤3 then 0 else 17
theorem Nb {v:Val} (h:¬(-1≤v.log∧v.log≤8∧0≤v.dots∧v.dots≤3)):17=C1 v:=by rw [C1,if_neg h]
theorem Vd {v:Val} (h: -1≤v.log∧v.log≤8∧0≤v.dots∧v.dots≤3):0=C1 v:=by rw [C1,if_pos h]
theorem Qk {v:Val} (h:¬C1 v≠0): -1≤v.log∧v.log≤8∧0≤v.dots∧v.dots≤3:=by
 unfold C1 at h;split at h
 ·assumption
 ·omega
theorem Ww (v:Val):XC Tryz.prog 120 [.agg (Val.c v)] (fun r=>r=dI (C1 v)):=by
 refine Ao Aa4 Tryz.func120 R R lb<|zr<|XL.step R (As 1 (l:= [.d (dI v.log), .d (dI v.dots)]) R R (by kernel_rfl))<|za R R<|zn<|zs<|zr<|zp (Ab R R M5)<|zp (Aa R R Ah R R)<|zp (Aq R R R)<|zm R R<|?_
 refine XL.dec 6 R (fun g6=> ?_) (fun g6=> ?_)
 exact zk 3 R<|zq R R R<|zm R R<|zk 3 R<|zq R R R<|zm R R<|zk 3 R<|zq R R R<|zn<|An (by kernel_rfl) R<|zr<|za R R<|zn<|zt<|z1 R R (rI (Nb (by omega)))
 refine zp (Ab R R M5)<|zp (Aa R R Ah R R)<|zp (A5 R R R)<|zq R R R<|zm R R<|?_
 refine XL.dec 11 R (fun g11=> ?_) (fun g11=> ?_)
 exact zk 3 R<|zq R R R<|zm R R<|zk 3 R<|zq R R R<|zn<|An (by kernel_rfl) R<|zr<|za R R<|zn<|zt<|z1 R R (rI (Nb (by omega)))
 refine zp (Ab R R J0)<|zp (Aa R R Ah R R)<|zp (Aq R R R)<|zq R R R<|zm R R<|?_
 refine XL.dec 16 R (fun g16=> ?_) (fun g16=> ?_)
 exact zk 3 R<|zq R R R<|zn<|An (by kernel_rfl) R<|zr<|za R R<|zn<|zt<|z1 R R (rI (Nb (by omega)))
 refine zp (Ab R R J0)<|zp (Aa R R Ah R R)<|zp (A5 R R R)<|zq R R R<|zn<|?_
 refine zd R (fun c20=> ?_) (fun c20=> ?_)
 exact zr<|za R R<|zn<|zt<|z1 R R (rI (Nb (by omega)))
 exact zi<|zr<|za R R<|zn<|zt<|z1 R R (rI (Vd (by omega)))
def E2 (p:Int):Nat→Int × Int
 |0=>(p,p)
 |n+1=>((E2 p n).1 / 2,(E2 p n).2+(E2 p n).1 / 2)
theorem Lo {p:Int} (h0:0≤p) (n:Nat):0≤(E2 p n).1∧(E2 p n).1≤p∧0≤(E2 p n).2∧(E2 p n).2≤p*(n+1):=by
 induction n with
 |zero=>simp [E2];omega
 |succ n ih=>
  have e:p*((n+1:Nat)+1:Int)=p*(n+1)+p:=by rw [Int.natCast_add,Int.mul_add];simp
  simp only [E2]
  rw [e]
  omega
def Ed (v:Val):Int:=3870720 / 2 ^ (v.log+1).toNat
def Ct (v:Val):Int:=(E2 (Ed v) v.dots.toNat).2
theorem N5 (v:Val):0≤Ed v∧Ed v≤3870720:=by
 unfold Ed
 have h:(0:Int)<2 ^ (v.log+1).toNat:=Int.pow_pos (by omega)
 exact ⟨Int.ediv_nonneg (by omega) (by omega),Int.ediv_le_self _ (by omega)⟩
theorem Wu (v:Val) (hv: -1≤v.log∧v.log≤8∧0≤v.dots∧v.dots≤3):XC Tryz.prog 170 [.agg (Val.c v)] (fun r=>r=dI (Ct v)):=by
 have hp:=N5 v
 refine Ao Z3 Tryz.func170 R R lb<|zr<|XL.step R (As 1 (l:= [.d (dI v.log), .d (dI v.dots)]) R R (by kernel_rfl))<|za R R<|znr<|zp (Ab R R M5)<|zp (Aa R R Ah R R)<|zp (Ak R R R (by omega) (by omega))<|zp (Al1 R R R (by omega) (by omega))<|za R R<|znr<|zm R R<|za R R<|zn<|?_
 refine zs<|zr<|zp (Ab R R J0)<|zp (Aa R R Ah R R)<|zm R R<|zn<|Ai<|?_
 refine Av (α:=Nat) (fun k=>(k:Int)≤v.dots) (fun k=>mkF [(2, .d (dI 0)),(3, .d (dI (E2 (Ed v) k).1)),(4, .d (dI (E2 (Ed v) k).2)),(11, .d (dI v.dots)),(12, .d (dI k))]) (fun k=>mkH []) (fun k=>v.dots.toNat - k) (0) (hv.2.2.1) ?_ ?_ ?_
 exact fz ⟨sr,sr,sr,sr,sr,trivial⟩
 exact HSub.nil
 intro k hk0
 refine zr<|zp (Aq R R R)<|zn<|zs<|?_
 refine zd R (fun c13=> ?_) (fun c13=> ?_)
 have hb:=Lo hp.1 k
 have hb2:Ed v*((k:Int)+1)≤3870720*4:=Int.mul_le_mul hp.2 (by omega) (by omega) (by omega)
 refine zi<|zs<|Ai<|zr<|zm R R<|zp (G2 R R R (by omega) (by omega) (by omega))<|za R R<|zng<|zm R R<|zm R R<|zp (Ak R R R (by omega) (by omega))<|za R R<|zn<|Af (by kernel_rfl)<|?_
 refine zp (Ak R R R (by omega) (by omega))<|zm R R<|zn<|?_
 exact Al (k+1) (by omega) (by omega) (fz ⟨sr,sr,sr,sr,sr,trivial⟩) (HSub.nil)
 have hke:v.dots.toNat=k:=by omega
 exact At<|zr<|zm R R<|za R R<|zn<|zt<|z1 R R (rI (by rw [Ct,hke]))
def P0 (v:Val):Int:=if C1 v=0 then Ct v else 0
theorem Amr {v:Val} (h:C1 v≠0):0=P0 v:=by rw [P0,if_neg h]
theorem Ad6 {v:Val} (h:¬C1 v≠0):Ct v=P0 v∧0=C1 v:=⟨by rw [P0,if_pos (by omega)],by omega⟩
theorem Ajc (v:Val):XC Tryz.prog 180 [.agg (Val.c v)] (fun r=>r= .tup [dI (P0 v),dI (C1 v)]):=by
 refine Ao Zu Tryz.func180 R R lb<|zr<|XL.step R (As 1 (l:= [.d (dI v.log), .d (dI v.dots)]) R R (by kernel_rfl))<|za R R<|za R R<|zn<|zs<|zr<|zp (Ae (s':= .d (.agg (Val.c v))) (Ac (Ad R R Da R lb)) (by kernel_rfl))<|XL.call1 R R (Ww _) R<|za R R<|znr<|zm R R<|zp (A9 R R R)<|?_
 refine zn<|?_
 refine zd R (fun c8=> ?_) (fun c8=> ?_)
 refine zr<|zm R R<|za R R<|za R R<|zn<|zt<|?_
 exact Bl R (RV.tmp R R) (RV.tmp R R) (r2 (rI (Amr c8)) R)
 refine zi<|zs<|?_
 have hv:=Qk c8
 refine Af (by kernel_rfl)<|zp (Ae (s':= .d (.agg (Val.c v))) (Ac (Ad R R Da R lb)) (by kernel_rfl))<|XL.call1 R R (Wu _ (by assumption)) R<|za R R<|za R R<|zn<|zt<|?_
 exact Bl R (RV.tmp R R) (RV.tmp R R) (r2 (rI (Ad6 c8).1) (rI (Ad6 c8).2))
def Ev.e1 (e:Ev):Int:=Cq [Bk e.site 99,Bk e.num 1073741824]
def Ev.e2 (e:Ev):Int:=Cq [Cf e.heads,E0 e.graces,Gw e.lyr]
def Ev.e3 (e:Ev):Int:=Cq [Bk e.art 31,Bk e.orn 4,Bk e.dyn 9,Bk e.stem 2,Bk e.beam 2]
def Ev.err (e:Ev):Int:=
 if e.e1≠0 then e.e1 else if ¬(1≤e.kind∧e.kind≤4) then 11 else if ¬e.same e.strip then 3 else if e.kind≠3∧C1 e.v≠0 then 17
 else if e.kind=1∧e.e2≠0 then e.e2 else e.e3
theorem Arj {e:Ev} (h:e.e1≠0):e.e1=e.err:=by rw [Ev.err,if_pos h]
theorem Al9 {e:Ev} (h:¬e.e1≠0) (h2:¬(1≤e.kind∧e.kind≤4)):11=e.err:=by rw [Ev.err,if_neg h,if_pos h2]
theorem Al8 {e:Ev} (h:¬e.e1≠0) (h2:¬ ¬(1≤e.kind∧e.kind≤4)) (h3:¬e.same e.strip):3=e.err:=by rw [Ev.err,if_neg h,if_neg h2,if_pos h3]
theorem Al7 {e:Ev} (h:¬e.e1≠0) (h2:¬ ¬(1≤e.kind∧e.kind≤4)) (h3:¬ ¬e.same e.strip) (h4:e.kind≠3) (h5:C1 e.v≠0):17=e.err:=by rw [Ev.err,if_neg h,if_neg h2,if_neg h3,if_pos ⟨h4,h5⟩]
theorem Al6 {e:Ev} (h:¬e.e1≠0) (h2:¬ ¬(1≤e.kind∧e.kind≤4)) (h3:¬ ¬e.same e.strip) (h4:¬(e.kind≠3∧C1 e.v≠0)) (h5:e.kind=1) (h6:e.e2≠0):e.e2=e.err:=by rw [Ev.err,if_neg h,if_neg h2,if_neg h3,if_neg h4,if_pos ⟨h5,h6⟩]
theorem Xc {e:Ev} (h:¬e.e1≠0) (h2:¬ ¬(1≤e.kind∧e.kind≤4)) (h3:¬ ¬e.same e.strip) (h4:¬(e.kind≠3∧C1 e.v≠0)) (h5:¬(e.kind=1∧e.e2≠0)):e.e3=e.err:=by rw [Ev.err,if_neg h,if_neg h2,if_neg h3,if_neg h4,if_neg h5]
theorem N1 (e:Ev) (he:e.art≤9223372036854775807):XC Tryz.prog 75 [.agg (Ev.c e)] (fun r=>r=dI e.err):=by
 refine Ao Acy Tryz.func75 R R lb<|zr<|XL.step R (As 1 (l:= [.d (dI e.site), .d (dI e.num), .d (dI e.kind), .d (dI e.v.log), .d (dI e.v.dots), .d (.sl 5 (e.heads.map Hd.c)), .d (.sl 5 (e.graces.map Gr.c)), .d (dI e.art), .d (dI e.orn), .d (dI e.dyn), .d (.sl 2 (e.lyr.map Sy.c)), .d (dI e.stem), .d (dI e.beam)]) R R (by kernel_rfl))<|za R R<|zn<|zs<|zs<|?_
 refine Bg [] (by kernel_rfl) (by kernel_rfl) (by kernel_rfl) (by decide)<|yp (Ab R R Ey)<|yp (Ab R R Y3)<|yp (Aa R R Ah R R)<|ChK.cons R (CStep.call R (Cs _ _) R)<|yp (Ab R R Ey)<|yp (Ab R R Y2)<|yp (Aa R R Ah R R)<|ChK.cons R (CStep.call R (Cs _ _) R)<|?_
 refine ChK.cons R (CStep.slice (l:=B4 [(Bk e.site 99),(Bk e.num 1073741824)]) R Tryz.underlying180 Nd J4 (by kernel_rfl) R (by omega) (by omega))<|ChK.cons R (CStep.call R (Jb _) R)<|ya R R<|?_
 refine ChK.nil ⟨by kernel_rfl, ?_⟩
 refine zr<|zm R R<|zp (A9 R R R)<|zn<|?_
 refine zd R (fun c16=> ?_) (fun c16=> ?_)
 exact zr<|zm R R<|za R R<|zn<|zt<|z1 R R (rI (Arj c16))
 refine zi<|zs<|zr<|zp (Ab R R Bn)<|zp (Aa R R Ah R R)<|XL.call1 R R (Ws _) R<|zp (Bo R R)<|zn<|?_
 refine zd R (fun c21=> ?_) (fun c21=> ?_)
 exact zr<|za R R<|zn<|zt<|z1 R R (rI (Al9 c16 c21))
 refine zi<|zs<|zs<|Bg [] (by kernel_rfl) (by kernel_rfl) (by kernel_rfl) (by decide)<|yp (Ae (s':= .d (.agg (Ev.c e))) (Ac (Ad R R Ax R lb)) (by kernel_rfl))<|yp (Ae (s':= .d (.agg (Ev.c e))) (Ac (Ad R R Ax R lb)) (by kernel_rfl))<|ChK.cons R (CStep.call R (Ajv _ (by assumption)) R)<|ChK.cons R (CStep.call R (Aed _ _) R)<|?_
 refine yp (Bo R R)<|?_
 refine ChK.nil ⟨by kernel_rfl, ?_⟩
 refine zd R (fun c26=> ?_) (fun c26=> ?_)
 exact zr<|za R R<|zn<|zt<|z1 R R (rI (Al8 c16 c21 c26))
 refine zi<|zs<|zr<|zp (Ab R R Bn)<|zp (Aa R R Ah R R)<|zp (A9 R R R)<|zm R R<|?_
 refine XL.dec 30 R (fun g30=> ?_) (fun g30=> ?_)
 refine zp (Ab R R Cz)<|zp (Ae (s':= .d (.agg (Val.c e.v))) (Ac (Ad R R Da R lb)) (by kernel_rfl))<|XL.call1 R R (Ww _) R<|zp (A9 R R R)<|zq R R R<|zn<|?_
 refine zd R (fun c35=> ?_) (fun c35=> ?_)
 exact zr<|za R R<|zn<|zt<|z1 R R (rI (Al7 c16 c21 c26 g30 c35))
 refine zi<|zs<|zr<|zp (Ab R R Bn)<|zp (Aa R R Ah R R)<|zp (Az R R R)<|zn<|?_
 refine zd R (fun c38=> ?_) (fun c38=> ?_)
 refine zs<|Bg [] (by kernel_rfl) (by kernel_rfl) (by kernel_rfl) (by decide)<|yp (Ab R R Bi)<|yp (Aa R R Cx R R)<|ChK.cons R (CStep.call R (Yy _) R)<|yp (Ab R R Eg)<|yp (Aa R R It R R)<|ChK.cons R (CStep.call R (Wn _) R)<|yp (Ab R R Ee)<|yp (Aa R R Is R R)<|ChK.cons R (CStep.call R (Wd _) R)<|?_
 refine ChK.cons R (CStep.slice (l:=B4 [(Cf e.heads),(E0 e.graces),(Gw e.lyr)]) R Tryz.underlying180 Nd J4 (by kernel_rfl) R (by omega) (by omega))<|ChK.cons R (CStep.call R (Jb _) R)<|ya R R<|?_
 refine ChK.nil ⟨by kernel_rfl, ?_⟩
 refine zr<|zm R R<|zp (A9 R R R)<|zn<|?_
 refine zd R (fun c51=> ?_) (fun c51=> ?_)
 exact zr<|zm R R<|za R R<|zn<|zt<|z1 R R (rI (Al6 c16 c21 c26 (fun h=>c35 h.2) c38 c51))
 refine zi<|zs<|Bg [] (by kernel_rfl) (by kernel_rfl) (by kernel_rfl) (by decide)<|yp (Ab R R Cy)<|yp (Aa R R Ah R R)<|ChK.cons R (CStep.call R (Cs _ _) R)<|yp (Ab R R Gf)<|yp (Aa R R Ah R R)<|ChK.cons R (CStep.call R (Cs _ _) R)<|yp (Ab R R Ef)<|yp (Aa R R Ah R R)<|ChK.cons R (CStep.call R (Cs _ _) R)<|?_
 refine yp (Ab R R Ea)<|yp (Aa R R Ah R R)<|ChK.cons R (CStep.call R (Cs _ _) R)<|yp (Ab R R Fl)<|yp (Aa R R Ah R R)<|ChK.cons R (CStep.call R (Cs _ _) R)<|?_
 refine ChK.cons R (CStep.slice (l:=B4 [(Bk e.art 31),(Bk e.orn 4),(Bk e.dyn 9),(Bk e.stem 2),(Bk e.beam 2)]) R Tryz.underlying180 Nd J4 (by kernel_rfl) R (by omega) (by omega))<|ChK.cons R (CStep.call R (Jb _) R)<|ya R R<|?_
 refine ChK.nil ⟨by kernel_rfl, ?_⟩
 exact zt<|z1 R R (rI (Xc c16 c21 c26 (fun h=>c35 h.2) (fun h=>c51 h.2)))
 refine zi<|zs<|Bg [] (by kernel_rfl) (by kernel_rfl) (by kernel_rfl) (by decide)<|yp (Ab R R Cy)<|yp (Aa R R Ah R R)<|ChK.cons R (CStep.call R (Cs _ _) R)<|yp (Ab R R Gf)<|yp (Aa R R Ah R R)<|ChK.cons R (CStep.call R (Cs _ _) R)<|yp (Ab R R Ef)<|yp (Aa R R Ah R R)<|ChK.cons R (CStep.call R (Cs _ _) R)<|?_
 refine yp (Ab R R Ea)<|yp (Aa R R Ah R R)<|ChK.cons R (CStep.call R (Cs _ _) R)<|yp (Ab R R Fl)<|yp (Aa R R Ah R R)<|ChK.cons R (CStep.call R (Cs _ _) R)<|?_
 refine ChK.cons R (CStep.slice (l:=B4 [(Bk e.art 31),(Bk e.orn 4),(Bk e.dyn 9),(Bk e.stem 2),(Bk e.beam 2)]) R Tryz.underlying180 Nd J4 (by kernel_rfl) R (by omega) (by omega))<|ChK.cons R (CStep.call R (Jb _) R)<|ya R R<|?_
 refine ChK.nil ⟨by kernel_rfl, ?_⟩
 exact zt<|z1 R R (rI (Xc c16 c21 c26 (fun h=>c35 h.2) (fun h=>c38 h.1)))
 refine zk 4 R<|zq R R R<|zn<|Bb (by kernel_rfl) R<|zi<|zs<|zr<|zp (Ab R R Bn)<|zp (Aa R R Ah R R)<|zp (Az R R R)<|zn<|?_
 refine zd R (fun c38=> ?_) (fun c38=> ?_)
 refine zs<|Bg [] (by kernel_rfl) (by kernel_rfl) (by kernel_rfl) (by decide)<|yp (Ab R R Bi)<|yp (Aa R R Cx R R)<|ChK.cons R (CStep.call R (Yy _) R)<|yp (Ab R R Eg)<|yp (Aa R R It R R)<|ChK.cons R (CStep.call R (Wn _) R)<|yp (Ab R R Ee)<|yp (Aa R R Is R R)<|ChK.cons R (CStep.call R (Wd _) R)<|?_
 refine ChK.cons R (CStep.slice (l:=B4 [(Cf e.heads),(E0 e.graces),(Gw e.lyr)]) R Tryz.underlying180 Nd J4 (by kernel_rfl) R (by omega) (by omega))<|ChK.cons R (CStep.call R (Jb _) R)<|ya R R<|?_
 refine ChK.nil ⟨by kernel_rfl, ?_⟩
 refine zr<|zm R R<|zp (A9 R R R)<|zn<|?_
 refine zd R (fun c51=> ?_) (fun c51=> ?_)
 exact zr<|zm R R<|za R R<|zn<|zt<|z1 R R (by exfalso;omega)
 refine zi<|zs<|Bg [] (by kernel_rfl) (by kernel_rfl) (by kernel_rfl) (by decide)<|yp (Ab R R Cy)<|yp (Aa R R Ah R R)<|ChK.cons R (CStep.call R (Cs _ _) R)<|yp (Ab R R Gf)<|yp (Aa R R Ah R R)<|ChK.cons R (CStep.call R (Cs _ _) R)<|yp (Ab R R Ef)<|yp (Aa R R Ah R R)<|ChK.cons R (CStep.call R (Cs _ _) R)<|?_
 refine yp (Ab R R Ea)<|yp (Aa R R Ah R R)<|ChK.cons R (CStep.call R (Cs _ _) R)<|yp (Ab R R Fl)<|yp (Aa R R Ah R R)<|ChK.cons R (CStep.call R (Cs _ _) R)<|?_
 refine ChK.cons R (CStep.slice (l:=B4 [(Bk e.art 31),(Bk e.orn 4),(Bk e.dyn 9),(Bk e.stem 2),(Bk e.beam 2)]) R Tryz.underlying180 Nd J4 (by kernel_rfl) R (by omega) (by omega))<|ChK.cons R (CStep.call R (Jb _) R)<|ya R R<|?_
 refine ChK.nil ⟨by kernel_rfl, ?_⟩
 exact zt<|z1 R R (by exfalso;omega)
 refine zi<|zs<|Bg [] (by kernel_rfl) (by kernel_rfl) (by kernel_rfl) (by decide)<|yp (Ab R R Cy)<|yp (Aa R R Ah R R)<|ChK.cons R (CStep.call R (Cs _ _) R)<|yp (Ab R R Gf)<|yp (Aa R R Ah R R)<|ChK.cons R (CStep.call R (Cs _ _) R)<|yp (Ab R R Ef)<|yp (Aa R R Ah R R)<|ChK.cons R (CStep.call R (Cs _ _) R)<|?_
 refine yp (Ab R R Ea)<|yp (Aa R R Ah R R)<|ChK.cons R (CStep.call R (Cs _ _) R)<|yp (Ab R R Fl)<|yp (Aa R R Ah R R)<|ChK.cons R (CStep.call R (Cs _ _) R)<|?_
 refine ChK.cons R (CStep.slice (l:=B4 [(Bk e.art 31),(Bk e.orn 4),(Bk e.dyn 9),(Bk e.stem 2),(Bk e.beam 2)]) R Tryz.underlying180 Nd J4 (by kernel_rfl) R (by omega) (by omega))<|ChK.cons R (CStep.call R (Jb _) R)<|ya R R<|?_
 refine ChK.nil ⟨by kernel_rfl, ?_⟩
 exact zt<|z1 R R (rI (Xc c16 c21 c26 (fun h=>g30 h.1) (fun h=>c38 h.1)))
def Ev.len (e:Ev):Int:=if e.err≠0∨e.kind=3 then 0 else P0 e.v
theorem Arf {e:Ev} (h:e.err≠0):0=e.len:=by rw [Ev.len,if_pos (.inl h)]
theorem Are {e:Ev} (h:e.kind=3):0=e.len:=by rw [Ev.len,if_pos (.inr h)]
theorem Ard {e:Ev} (h:¬e.err≠0) (h2:¬e.kind=3):P0 e.v=e.len:=by rw [Ev.len,if_neg (by omega)]
theorem Afj {e:Ev} (h:¬e.err≠0) (h2:¬e.kind=3):C1 e.v=e.err:=by
 have h0:e.err=0:=by omega
 rw [h0]
 unfold Ev.err at h0
 split at h0
 ·rename_i h1;exact absurd h0 h1
 ·split at h0
  ·omega
  ·split at h0
   ·omega
   ·split at h0
    ·omega
    ·rename_i h4;by_cases h5:C1 e.v=0
     ·exact h5
     ·exact absurd ⟨h2,h5⟩ h4
theorem Afe (e:Ev) (he:e.art≤9223372036854775807):XC Tryz.prog 162 [.agg (Ev.c e)] (fun r=>r= .tup [dI e.len,dI e.err]):=by
 refine Ao Z9 Tryz.func162 R R lb<|zr<|XL.step R (As 1 (l:= [.d (dI e.site), .d (dI e.num), .d (dI e.kind), .d (dI e.v.log), .d (dI e.v.dots), .d (.sl 5 (e.heads.map Hd.c)), .d (.sl 5 (e.graces.map Gr.c)), .d (dI e.art), .d (dI e.orn), .d (dI e.dyn), .d (.sl 2 (e.lyr.map Sy.c)), .d (dI e.stem), .d (dI e.beam)]) R R (by kernel_rfl))<|za R R<|za R R<|zn<|zs<|zr<|?_
 refine zp (Ae (s':= .d (.agg (Ev.c e))) (Ac (Ad R R Ax R lb)) (by kernel_rfl))<|XL.call1 R R (N1 _ (by assumption)) R<|za R R<|znr<|zm R R<|zp (A9 R R R)<|zm R R<|?_
 refine XL.dec 9 R (fun g9=> ?_) (fun g9=> ?_)
 refine zk 3 R<|zq R R R<|zn<|An (by kernel_rfl) R<|zr<|zm R R<|za R R<|za R R<|zn<|zt<|?_
 exact Bl R (RV.tmp R R) (RV.tmp R R) (r2 (rI (Arf g9)) R)
 refine zp (Ab R R Bn)<|zp (Aa R R Ah R R)<|zp (Az R R R)<|zq R R R<|zn<|?_
 refine zd R (fun c13=> ?_) (fun c13=> ?_)
 refine zr<|zm R R<|za R R<|za R R<|zn<|zt<|?_
 exact Bl R (RV.tmp R R) (RV.tmp R R) (r2 (rI (Are c13)) R)
 refine zi<|zr<|zp (Ab R R Cz)<|zp (Ae (s':= .d (.agg (Val.c e.v))) (Ac (Ad R R Da R lb)) (by kernel_rfl))<|XL.call1 R R (Ajc _) R<|zp (A6 R R R)<|zp (A6 R R R)<|za R R<|za R R<|zn<|zt<|?_
 exact Bl R (RV.tmp R R) (RV.tmp R R) (r2 (rI (Ard g9 c13)) (rI (Afj g9 c13)))
end Go.Proofs.YtcihalbakenleaaGreat
namespace Go.Proofs.YtcihalbakenleaaGreat
open Go.RowKit
theorem Bd.ati {e:Operand→S} {y:Operand} {k:IntKind} {b:Int} {a dflt:Nat} (h:e y= .d (.v (.int k b))) (hb:b=(a:Int)):Bd e (some y) dflt a:=by subst hb;exact .at h
theorem Ag5 {P:Program} {F:FuncId} {ds:List D} {p:Prop} [Decidable p] (hx:XC P F ds (fun r=>r= .v (.bool (decide p)))) (h:p):XC P F ds (fun r=>r= .v (.bool true)):=by rwa [decide_eq_true h] at hx
theorem Hl {id:Nat} {K:Do} {f:Fr} {h:Xh} (hk:K .normal f h):Uf id K .normal f h:=hk
theorem Sim.lay {E:Env} {H:Hp} {β:Bt} {h:Xh} {w:World} (s:Sim E H β h w) (i:Nat) (o':XO) (L':Loc) (hblk:∀b,o'.blk L'=some b→∃o L,h i=some o∧β i=some L∧o.blk L=some b)
  (hok:OKo E.w.heap.size w H (β.set i (some L')) L' o'):Sim E H (β.set i (some L')) ((h.kill i).set i o') w:=by
 have k:=s.kill i (some L')
 have old:∀j o1 L1,i≠j→h.kill i j=some o1→(β.set i (some L')) j=some L1→∃o2,h j=some o2∧β j=some L1∧o1.blk L1=o2.blk L1:=fun j o1 L1 e h1 h2=>by
  rw [Xh.kill_ne h e] at h1
  rw [Bt.set_ne β _ e] at h2
  cases hj:h j with
  |none=>rw [hj] at h1;cases h1
  |some o2=>rw [hj] at h1;cases h1;exact ⟨o2,rfl,h2,XO.blk_kill _ _ _⟩
 refine ⟨k.below,k.ext,k.new,k.imm,fun j o1 L1 h1 h2=> ?_,fun j o1 L1 h1 h2 b hb=> ?_,fun j j' o1 o2 L1 L2 b hjj h1 h1' h2 h2' hb=> ?_,fun j o1 h1 hg=> ?_⟩
 ·by_cases e:i=j
  ·subst e;rw [Xh.set_same] at h1;rw [Bt.set_same] at h2;cases h1;cases h2;exact hok
  ·rw [Xh.set_ne _ _ e] at h1;exact k.obj j o1 L1 h1 h2
 ·by_cases e:i=j
  ·subst e;rw [Xh.set_same] at h1;rw [Bt.set_same] at h2;cases h1;cases h2
   obtain ⟨o,L,g1,g2,g3⟩:=hblk b hb
   exact s.sep i o L g1 g2 b g3
  ·rw [Xh.set_ne _ _ e] at h1;exact k.sep j o1 L1 h1 h2 b hb
 ·by_cases e:i=j
  ·subst e
   rw [Xh.set_same] at h1;rw [Bt.set_same] at h2;cases h1;cases h2
   rw [Xh.set_ne _ _ hjj] at h1'
   obtain ⟨o,L,g1,g2,g3⟩:=hblk b hb
   obtain ⟨o3,g4,g5,g6⟩:=old j' o2 L2 hjj h1' h2'
   rw [g6]
   exact s.inj i j' o o3 L L2 b hjj g1 g4 g2 g5 g3
  ·rw [Xh.set_ne _ _ e] at h1
   obtain ⟨o3,g4,g5,g6⟩:=old j o1 L1 e h1 h2
   by_cases e':i=j'
   ·subst e'
    rw [Xh.set_same] at h1';rw [Bt.set_same] at h2';cases h1';cases h2'
    intro hc
    obtain ⟨o,L,g1,g2,g3⟩:=hblk b hc
    rw [g6] at hb
    exact s.inj i j o o3 L L1 b e g1 g4 g2 g5 g3 hb
   ·rw [Xh.set_ne _ _ e'] at h1'
    exact k.inj j j' o1 o2 L1 L2 b hjj h1 h1' h2 h2' hb
 ·by_cases e:i=j
  ·subst e;exact ⟨_,Bt.set_same _ _ _⟩
  ·rw [Xh.set_ne _ _ e] at h1;exact k.dom j o1 h1 hg
section
variable {P:Program} {n:Nat} {ops:Array Oper} {rest:List Oper} {K:Do} {f:Fr} {h:Xh} {o:Oper} {c:Code}
theorem Uw {E:Env} {H:Hp} {β:Bt} {h:Xh} {w:World} (s:Sim E H β h w) (i:Nat) (e:TypeId) (sz:Nat):Sim E H (β.set i (some ⟨.slice none 0 0,0,sz⟩)) ((h.kill i).set i (.row e sz [])) w:=
 s.lay i _ _ (fun b hb=>by cases hb) ⟨rfl,fun x hx=>(by cases hx),fun b hb=>(by cases hb), [],World.ownsRow_nil _ _ _ _,fun u hu=>(by cases hu),fun k j x d hk=>(by simp at hk)⟩
theorem Fj (i t:Nat) (e:TypeId) (sz:Nat) (ht:f t= .d (.v (.slice none 0 0))) (hc:XW P n c K (Db (Hb f i) t (.own i)) ((h.kill i).set i (.row e sz []))):XW P n c K f h:=fun E H β a w hs hf=>by
 by_cases hlt:t<n
 ·refine hc E H _ a w (Uw hs i e sz) ?_
  refine U3 (hf.kill i (some ⟨.slice none 0 0,0,sz⟩)) t ?_
  have e1:=hf.slot t hlt
  rw [ht] at e1
  rw [Dy e1]
  exact VS.own (L:=⟨.slice none 0 0,0,sz⟩) (Bt.set_same _ _ _)
 ·refine hc E H _ a w (Uw hs i e sz) ⟨hf.defers,hf.size,fun j hj=> ?_⟩
  have:t≠j:=fun e=>hlt (e ▸ hj)
  simp only [Db,B9 this,cond_false]
  exact (hf.kill i (some ⟨.slice none 0 0,0,sz⟩)).slot j hj
theorem Ar6 (l:List S) (k:Nat) (s:S) (j:Nat):(l.set k s)[j]? =if k=j∧j<l.length then some s else l[j]? :=by
 rw [List.getElem?_set]
 by_cases e:k=j
 ·subst e
  rw [if_pos rfl]
  by_cases h:k<l.length
  ·rw [if_pos h,if_pos ⟨rfl,h⟩]
  ·rw [if_neg h,if_neg (fun e=>h e.2),List.getElem?_eq_none (by omega)]
 ·rw [if_neg e,if_neg (fun h=>e h.1)]
theorem Pu (i b k:Nat) (e:TypeId) (sz:Nat) {l l':List S} (hb:h b=some (.box l)) (hk:l[k]? =some (.d (.v (.slice none 0 0)))) (hib:i≠b) (hl':(S.killL i l).set k (.own i)=l')
  (hc:XW P n c K (Hb f i) (((h.kill i).set i (.row e sz [])).set b (.box l'))):XW P n c K f h:=fun E H β a w hs hf=>by
 subst hl'
 have s2:=Uw hs i e sz
 have hb2:((h.kill i).set i (.row e sz [])) b=some (.box (S.killL i l)):=by rw [Xh.set_ne _ _ hib,Xh.kill_ne _ hib,hb];rfl
 refine hc E H _ a w ?_ (hf.kill i (some ⟨.slice none 0 0,0,sz⟩))
 cases hL:(β.set i (some ⟨.slice none 0 0,0,sz⟩)) b with
 |none=>
  refine ⟨s2.below,s2.ext,s2.new,s2.imm,fun j o1 L1 h1 h2=> ?_,fun j o1 L1 h1 h2=> ?_,fun j j' o1 o2 L1 L2 q hjj h1 h1' h2 h2'=> ?_,fun j o1 h1 hg=> ?_⟩
  ·by_cases e:b=j
   ·subst e;rw [hL] at h2;cases h2
   ·rw [Xh.set_ne _ _ e] at h1;exact s2.obj j o1 L1 h1 h2
  ·by_cases e:b=j
   ·subst e;rw [hL] at h2;cases h2
   ·rw [Xh.set_ne _ _ e] at h1;exact s2.sep j o1 L1 h1 h2
  ·by_cases e:b=j
   ·subst e;rw [hL] at h2;cases h2
   ·rw [Xh.set_ne _ _ e] at h1
    by_cases e':b=j'
    ·subst e';rw [hL] at h2';cases h2'
    ·rw [Xh.set_ne _ _ e'] at h1';exact s2.inj j j' o1 o2 L1 L2 q hjj h1 h1' h2 h2'
  ·by_cases e:b=j
   ·subst e;rw [Xh.set_same] at h1;cases h1;cases hg
   ·rw [Xh.set_ne _ _ e] at h1;exact s2.dom j o1 h1 hg
 |some L=>
  have ok:=s2.obj b _ L hb2 hL
  obtain ⟨h1,h0,us,t,h2,h3,h4⟩:=ok
  refine s2.turn (o:= .box (S.killL i l)) hb2 hL rfl s2.below (fun _ _=>rfl) ⟨h1,by rw [List.length_set];exact h0,us,t,h2,by rw [List.length_set];exact h3,fun j u s hu hs'=> ?_⟩
  rw [Ar6] at hs'
  split at hs'
  ·rename_i hkj
   obtain ⟨rfl,hlt⟩:=hkj
   cases hs'
   have:=h4 k u (.d (.v (.slice none 0 0))) hu (by rw [S.killL_get,hk];simp [S.kill])
   rw [Dy this]
   exact VS.own (L:=⟨.slice none 0 0,0,sz⟩) (Bt.set_same _ _ _)
  ·exact h4 j u s hu hs'
theorem Tl {i:Nat} {t ty:TypeId} {sz:Nat} {x:Operand} {hi:Option Operand} {l:List (List D)} {m:Nat} (ho:o.op= .slice t x none hi none) (hx:ev f x= .own i) (hi':h i=some (.row ty sz l)) (hf:elB P t sz=true)
  (hhi:Bd (ev f) hi l.length m) (hm:m≤l.length):Step P n o f h (.own i) (Hb f i) ((h.kill i).set i (.row ty sz (l.take m))):=by
 intro E H β a w hs hfv hop
 have g:=hop x (by rw [ho];simp [Op.operands])
 rw [hx] at g
 obtain ⟨L,hL,hv⟩:=Ij g
 obtain ⟨el,hu,hpos,hsz⟩:=elB.parts hf
 obtain ⟨h1,hz,hvb,us,hown,hone,hc⟩:=hs.obj i _ L hi' hL
 have hown0:=hown
 obtain ⟨hlen,hcase⟩:=hown
 have hcap:∃A c,L.v= .slice A l.length c∧l.length≤c∧((A=none∧c=0)∨∃g,A=some ⟨g,0,none⟩):=by
  rcases hcase with ⟨hn,h0⟩|⟨g,cap,cur,e1,e2,e3,e4,e5,e6,e7⟩
  ·exact ⟨none,0,by rw [hn,h0],by omega, .inl ⟨rfl,rfl⟩⟩
  ·exact ⟨_,cap,e1,e4, .inr ⟨g,rfl⟩⟩
 obtain ⟨A,c,hLv,hlc,hA⟩:=hcap
 have hbounds:(Instr.sliceBounds true l.length c (none:Option Value) (hi.map a.eval) none).run P w= .ok (0,m,c) w:=
  Mc _ _ _ _ _ _ (.inl ⟨rfl,rfl⟩) (hhi.val fun y hy=>hop y (by rw [ho,hy];simp [Op.operands])) (Nat.zero_le _) (by omega) w
 have hrun:(execOp a.eval o).run P w= .ok (.value (.slice A m c)) w:=by
  unfold execOp
  simp only [ho,hv,hLv,Instr.sliceAt,Option.map_none,Sem.run_bind,run_underlying hu,Result.andThen_ok,Instr.slice,hbounds,hsz,Sem.run_pure,Nat.sub_zero,Nat.zero_mul]
  rcases hA with ⟨rfl,rfl⟩|⟨g,rfl⟩
  ·simp
  ·split<;>simp [Go.WideShapes.add_plain]
 unfold Oper.wp
 rw [hrun]
 have hblk:(Value.slice A m c).ownBlock=L.v.ownBlock:=by rw [hLv];rcases hA with ⟨rfl,_⟩|⟨g,rfl⟩<;>rfl
 have hlt:(l.take m).length=m:=by rw [List.length_take];omega
 refine ⟨H,β.set i (some ⟨.slice A m c,L.b,sz⟩), .slice A m c,rfl,hs.lay i _ _ (fun b hb=> ?_) ?_,hfv.kill i _,VS.own (L:=⟨.slice A m c,L.b,sz⟩) (Bt.set_same _ _ _)⟩
 ·refine ⟨_,L,hi',hL, ?_⟩
  simp only [XO.blk] at hb ⊢
  rw [←hblk];exact hb
 ·refine ⟨rfl,fun x hx=>hz x (List.mem_of_mem_take hx),fun b hb=>hvb b (by rw [←hblk];exact hb),us.take (m*sz),⟨?_, ?_⟩,fun u hu'=>hone u (List.mem_of_mem_take hu'),fun k j x d hk hj=> ?_⟩
  ·rw [List.length_take,hlt,hlen]
   exact Nat.min_eq_left (Nat.mul_le_mul_right _ hm)
  ·rw [hlt]
   rcases hcase with ⟨hn,h0⟩|⟨g,cap,cur,e1,e2,e3,e4,e5,e6,e7⟩
   ·rw [hn] at hLv
    injection hLv with q1 q2 q3
    subst q1 q3
    have:m=0:=by omega
    subst this
    exact .inl ⟨rfl,rfl⟩
   ·rw [e1] at hLv
    injection hLv with q1 q2 q3
    subst q1 q3
    refine .inr ⟨g,cap,cur,rfl,e2,e3,by omega,e5,e6, ?_⟩
    rw [←e7,List.take_take,Nat.min_eq_left (Nat.mul_le_mul_right _ hm)]
  ·have hkm:k<m:=by
    have:=(List.getElem?_eq_some_iff.1 hk).1
    omega
   rw [List.getElem?_take,if_pos hkm] at hk
   obtain ⟨u,h5,h6⟩:=hc k j x d hk hj
   refine ⟨u, ?_,h6⟩
   rw [List.getElem?_take,if_pos]
   ·exact h5
   ·have hjl:j<sz:=by
     have e1:=hz x (List.mem_of_getElem? hk)
     have e2:=(List.getElem?_eq_some_iff.1 hj).1
     omega
    calc k*sz+j<k*sz+sz:=by omega
     _=(k+1)*sz:=by rw [Nat.add_mul,Nat.one_mul]
     _≤m*sz:=Nat.mul_le_mul_right _ hkm
inductive FnS:S→FuncId→List S→List S→Prop where
 |s {F:FuncId} {ps cs:List S}:FnS (.fn F ps cs) F ps cs
 |d {F:FuncId} {pd cd:List D}:FnS (.d (.fn F pd cd)) F (pd.map S.d) (cd.map S.d)
theorem FnS.vs {H:Hp} {β:Bt} {u:Value} {s:S} {F:FuncId} {ps cs:List S} (hs:FnS s F ps cs) (hv:VS H β u s):VS H β u (.fn F ps cs):=by
 cases hs with
 |s=>exact hv
 | @d _ pd cd=>
  obtain ⟨A,C,rfl,h1,h2,h3,h4⟩:=Als (D5 hv)
  refine .fn F A C _ _ (by simpa using h1) (by simpa using h2) (fun i x s hx hs=> ?_) (fun i x s hx hs=> ?_)
  ·rw [List.getElem?_map] at hs
   cases hp:pd[i]? with
   |none=>rw [hp] at hs;cases hs
   |some d=>rw [hp] at hs;cases hs;exact .d (h3 i x d hx hp)
  ·rw [List.getElem?_map] at hs
   cases hp:cd[i]? with
   |none=>rw [hp] at hs;cases hs
   |some d=>rw [hp] at hs;cases hs;exact .d (h4 i x d hx hp)
def Ks (P:Program) (n:Nat) (fn:Func) (f:Fr) (h:Xh) (s:S):Prop:=∀E H β a w,Sim E H β h w→FV n H β a f→∃u,(results fn a.tmps).run P w= .ok u w∧VS H β u s
theorem rs0 {fn:Func} {s:S} (hr:fn.results= #[]) (hs:s= .any):Ks P n fn f h s:=fun E H β a w _ _=>⟨.tuple #[],by rw [Ic,hr];simp,by rw [hs];exact .any _⟩
theorem rs1 {fn:Func} {rv:ResultVar} {d:D} (hr:fn.results= #[rv]) (h1:RV P n f h rv d):Ks P n fn f h (.d d):=fun E H β a w hs hf=>by
 obtain ⟨u,e1,v1⟩:=h1 E H β a w hs hf
 refine ⟨u, ?_, .d v1⟩
 rw [Ic,hr]
 simp [e1]
def Agz (ss:List S):Fr:=fun t=>
 match ss[t]? with
 |some s=>s
 |none=> .d (.v undef)
def Aky (P:Program) (n:Nat) (ops:Array Oper) (rest:List Oper) (K:Do) (dst:Option Tmp) (fn:Func) (n' G:Nat) (u:Array Value):Do
 | .normal,f,h=>∃s l,h G=some (.ghost u l)∧Ks P n' fn f h s∧XL P n ops rest K (Bv (mkF l) dst s) h
 | .ret,f,h=>∃s l,h G=some (.ghost u l)∧Ks P n' fn f h s∧XL P n ops rest K (Bv (mkF l) dst s) h
 |_,_,_=>False
theorem F7 {dst:Option Tmp} {fn:Func} {n' G:Nat} {u:Array Value} {f':Fr} {h':Xh} {s:S} {l:List (Nat × S)} (hG:h' G=some (.ghost u l)) (hr:Ks P n' fn f' h' s) (hk:XL P n ops rest K (Bv (mkF l) dst s) h'):
  Aky P n ops rest K dst fn n' G u .normal f' h'∧Aky P n ops rest K dst fn n' G u .ret f' h':=⟨⟨s,l,hG,hr,hk⟩,⟨s,l,hG,hr,hk⟩⟩
theorem Anm {l:List (Nat × S)} {t:Nat}:mkF l t= .any∨(t,mkF l t)∈l:=by
 induction l with
 |nil=>exact .inl rfl
 |cons p l ih=>
  obtain ⟨t',s⟩:=p
  by_cases e:t'=t
  ·subst e
   right
   have:mkF ((t',s)::l) t'=s:=by simp only [mkF,Db,B1,cond_true]
   rw [this]
   exact List.mem_cons_self
  ·have:mkF ((t',s)::l) t=mkF l t:=by simp only [mkF,Db,B9 e,cond_false]
   rw [this]
   rcases ih with h|h
   ·exact .inl h
   ·exact .inr (List.mem_cons_of_mem _ h)
theorem XL.inl {x:Operand} {args:Array Operand} {tys:Array TypeId} {F:FuncId} {ps cs:List S} {fn:Func} {n':Nat} (G:Nat) (l:List (Nat × S)) (ho:o.op= .call {callee:= .value x,args:=args,argTypes:=tys})
  (hw:Cc ops f n o.guard=some true) (hx:FnS (ev f x) F ps cs) (hcl:Callable P F) (hf:P.funcs[F]? =some fn) (hb:fn.body=some c) (hn:fn.ntmps=n') (hlen:ps.length+args.size+cs.length≤n')
  (hl:∀p∈l,p.1<n∧f p.1=p.2)
  (hc:∀u,XW P n' c (Aky P n ops rest K o.dst fn n' G u) (Hb (Agz (ps++args.toList.map (ev f)++cs)) G) ((h.kill G).set G (.ghost u (S.killG G l)))):XL P n ops (o::rest) K f h:=by
 intro hin E H β a w hs hfv
 rw [List.all_cons,Bool.and_eq_true] at hin
 have hop:=hfv.operands hin.1
 have hd:=hin.1
 unfold inN at hd
 rw [Bool.and_eq_true] at hd
 have hop':∀y∈args,VS H β (a.eval y) (ev f y):=fun y hy=>hop y (by rw [ho];simp [Op.operands,Call.operands,hy])
 have hxv:=hop x (by rw [ho];simp [Op.operands,Call.operands])
 obtain ⟨A,C,hA,hA1,hC1,hA2,hC2⟩:=Afh (hx.vs hxv)
 have hrun:(execOp a.eval o).run P w= .ok (.enter F (A++args.map a.eval++C)) w:=by
  have:=hcl.run (A++args.map a.eval++C) w
  unfold execOp
  simp only [ho,resolve,hA,Deferred.ofValue,Sem.run_bind,Sem.run_pure,Result.andThen_ok,invoke]
  exact this
 unfold wpList
 rw [if_pos (Jf hfv hw)]
 refine .inl (Hm (K:=fun a' w'=>wpList P ops (Abv E n K) rest a' w') ?_ (fun _ _ h=>h))
 unfold Oper.wp
 rw [hrun]
 let L0:Option Loc:=some ⟨.slice none 0 0,0,0⟩
 have hvs:∀(i:Nat) (y:Value) (s:S),(A++args.map a.eval++C)[i]? =some y→(ps++args.toList.map (ev f)++cs)[i]? =some s→VS H β y s:=by
  intro i y s hy hd
  by_cases h1:i<ps.length
  ·rw [List.append_assoc,List.getElem?_append_left h1] at hd
   rw [Array.append_assoc,Array.getElem?_append_left (by omega)] at hy
   exact hA2 i y s hy hd
  ·by_cases h2:i<ps.length+args.size
   ·rw [List.append_assoc,List.getElem?_append_right (by omega),List.getElem?_append_left (by simp;omega)] at hd
    rw [Array.append_assoc,Array.getElem?_append_right (by omega),Array.getElem?_append_left (by simp;omega),hA1] at hy
    rw [List.getElem?_map,Array.getElem?_toList] at hd
    rw [Array.getElem?_map] at hy
    cases hq:args[i - ps.length]? with
    |none=>rw [hq] at hd;cases hd
    |some q=>
     rw [hq] at hd hy
     cases hd;cases hy
     exact hop' q (Array.mem_of_getElem? hq)
   ·rw [List.getElem?_append_right (by simp;omega)] at hd
    rw [Array.getElem?_append_right (by simp;omega)] at hy
    have e:(A++args.map a.eval).size=(ps++args.toList.map (ev f)).length:=by simp [hA1]
    rw [e] at hy
    exact hC2 _ y s hy hd
 have hsz:(A++args.map a.eval++C).size=(ps++args.toList.map (ev f)++cs).length:=by simp [hA1,hC1]
 have hsz2:(A++args.map a.eval++C).size=ps.length+args.size+cs.length:=by simp [hA1,hC1];omega
 generalize hvse:A++args.map a.eval++C=vs at*
 generalize hsse:ps++args.toList.map (ev f)++cs=ss at*
 have hcal:Calls P F vs w fun e w'=>∃v,e= .returned v∧wpList P ops (Abv E n K) rest (a.put o.dst v) w':=by
  refine calls_of_wp hf hb ?_
  have s2:Sim E H (β.set G L0) ((h.kill G).set G (.ghost a.tmps (S.killG G l))) w:=by
   refine hs.lay G _ _ (fun b hb=>by cases hb) fun t s hm=> ?_
   obtain ⟨s',h1,rfl⟩:=S.killG_mem hm
   obtain ⟨h2,h3⟩:=hl _ h1
   have:=hfv.slot t h2
   simp only at h3
   rw [h3] at this
   exact this.kill G _
  have f2:FV n' H (β.set G L0) {tmps:=vs++Array.replicate (fn.ntmps - vs.size) undef,defers:= []} (Hb (Agz ss) G):=by
   refine FV.kill ⟨rfl,by simp [hn];omega,fun t ht=> ?_⟩ G L0
   unfold Agz
   cases hd:ss[t]? with
   |none=>
    have hge:ss.length≤t:=List.getElem?_eq_none_iff.1 hd
    have:(vs++Array.replicate (fn.ntmps - vs.size) undef).getD t undef=undef:=by
     rw [Array.getD_eq_getD_getElem?,Array.getElem?_append_right (by omega)]
     rw [Array.getElem?_replicate]
     split<;>rfl
    show VS H β ((vs++Array.replicate (fn.ntmps - vs.size) undef).getD t undef) (.d (.v undef))
    rw [this]
    exact .d (.v _)
   |some s=>
    have hlt:t<ss.length:=(List.getElem?_eq_some_iff.1 hd).1
    have hx : vs[t]? = some (vs[t]'(by omega)) := Array.getElem?_eq_getElem (by omega)
    have : (vs ++ Array.replicate (fn.ntmps - vs.size) undef).getD t undef = vs[t]'(by omega) := by
     rw [Array.getD_eq_getD_getElem?,Array.getElem?_append_left (by omega),hx]
     rfl
    show VS H β ((vs++Array.replicate (fn.ntmps - vs.size) undef).getD t undef) s
    rw [this]
    exact hvs t _ s hx hd
  refine wp_mono (hc a.tmps E H _ _ w s2 f2) ?_
  rintro e a' w' ⟨H',β',f',h',h1,h2,h3⟩
  have fin:(∃s l,h' G=some (.ghost a.tmps l)∧Ks P n' fn f' h' s∧XL P n ops rest K (Bv (mkF l) o.dst s) h')→
    a'.defers= []∧∃v,(results fn a'.tmps).run P w'= .ok v w'∧∃v',Ending.returned v= .returned v'∧wpList P ops (Abv E n K) rest (a.put o.dst v') w':=by
   rintro ⟨s,l',g1,g2,g3⟩
   obtain ⟨v,g4,g5⟩:=g2 E H' β' a' w' h1 h2
   refine ⟨h2.defers,v,g4,v,rfl, ?_⟩
   obtain ⟨L,hL⟩:=h1.dom G _ g1 rfl
   have hok:∀t s,(t,s)∈l'→VS H' β' (a.tmps.getD t undef) s:=h1.obj G _ L g1 hL
   have fv : FV n H' β' a (mkF l') := ⟨hfv.defers, hfv.size, fun t _ => by
    rcases Anm (l:=l') (t:=t) with e|e
    ·rw [e];exact .any _
    ·exact hok _ _ e⟩
   exact g3 hin.2 E H' β' _ w' h1 (fv.put g5 o.dst hd.2)
  cases e with
  |normal=>exact fin h3
  |ret=>exact fin h3
  |_=>exact h3.elim
 refine hcal.mono ?_
 rintro e w' ⟨v,rfl,h⟩
 exact h
end
end Go.Proofs.YtcihalbakenleaaGreat
namespace Go.Proofs.YtcihalbakenleaaGreat
open Go.RowKit
def Tp.e (t:Tp):Int:=t.first+t.count
def Tp.ok (t:Tp):Prop:=0≤t.first∧t.first≤128∧1≤t.count∧t.count≤128∧1≤t.actual∧t.actual≤32∧1≤t.normal∧t.normal≤32
def Tp.has (t:Tp) (n:Int):Prop:=t.first≤n∧n - t.first<t.count
instance (t:Tp) (n:Int):Decidable (t.has n):=by unfold Tp.has;exact inferInstance
theorem Ho (t:Tp) (h:t.ok):XC Tryz.prog 166 [.agg (Tp.c t)] (fun r=>r=dI t.e):=by
 have h2:=h
 simp only [Tp.ok] at h2
 exact Ao Z6 Tryz.func166 R R lb<|zr<|XL.step R (As 1 (l:= [.d (dI t.first), .d (dI t.count), .d (dI t.actual), .d (dI t.normal)]) R R (by kernel_rfl))<|za R R<|znr<|zp (Ab R R By)<|zp (Aa R R Ah R R)<|zp (Ab R R Dg)<|zp (Aa R R Ah R R)<|zp (Ak R R R (by omega) (by omega))<|za R R<|zn<|zt<|z1 R R (rI R)
theorem R1 (t:Tp) (n:Int) (h:t.ok) (h0:0≤n) (h1:n≤128):XC Tryz.prog 140 [.agg (Tp.c t), .v (.int .i64 n)] (fun r=>r=dB (decide (t.has n))):=by
 have h2:=h
 simp only [Tp.ok] at h2
 refine Ao Aap Tryz.func140 R R lb<|zr<|XL.step R (As 2 (l:= [.d (dI t.first), .d (dI t.count), .d (dI t.actual), .d (dI t.normal)]) R R (by kernel_rfl))<|za R R<|znr<|zm R R<|zp (Ab R R By)<|zp (Aa R R Ah R R)<|zp (E4 R R R)<|zm R R<|?_
 refine XL.dec 9 R (fun g9=> ?_) (fun g9=> ?_)
 exact zm R R<|zp (Ab R R By)<|zp (Aa R R Ah R R)<|zp (Di R R R (by omega) (by omega))<|zp (Ab R R Dg)<|zp (Aa R R Ah R R)<|zp (Aq R R R)<|zq R R R<|za R R<|zn<|zt<|z1 R R (rB (by rw [decide_eq_decide];unfold Tp.has;omega))
 exact zk 7 R<|zq R R R<|za R R<|zn<|zt<|z1 R R (rB (by rw [eq_comm,decide_eq_false_iff_not];unfold Tp.has;omega))
def Ki (a b:Tp):Int:=if a.first≠b.first then (if a.first<b.first then -1 else 1) else if a.count≠b.count then (if b.count<a.count then -1 else 1) else 0
theorem Akj (a b:Tp):XC Tryz.prog 168 [.agg (Tp.c a), .agg (Tp.c b)] (fun r=>r=dI (Ki a b)):=by
 refine Ao Z4 Tryz.func168 R R lb<|zr<|XL.step R (As 2 (l:= [.d (dI a.first), .d (dI a.count), .d (dI a.actual), .d (dI a.normal)]) R R (by kernel_rfl))<|XL.step R (As 3 (l:= [.d (dI b.first), .d (dI b.count), .d (dI b.actual), .d (dI b.normal)]) R R (by kernel_rfl))<|za R R<|zn<|zs<|zr<|zp (Ab R R By)<|zp (Aa R R Ah R R)<|zp (Ab R R By)<|?_
 refine zp (Aa R R Ah R R)<|zp (A9 R R R)<|zn<|?_
 refine zd R (fun c9=> ?_) (fun c9=> ?_)
 refine zs<|zr<|zp (Ab R R By)<|zp (Aa R R Ah R R)<|zp (Ab R R By)<|zp (Aa R R Ah R R)<|zp (Aq R R R)<|zn<|?_
 refine zd R (fun c14=> ?_) (fun c14=> ?_)
 exact zr<|za R R<|zn<|zt<|z1 R R (rI (by rw [Ki,if_pos c9,if_pos c14]))
 exact zi<|zr<|za R R<|zn<|zt<|z1 R R (rI (by rw [Ki,if_pos c9,if_neg c14]))
 refine zi<|zs<|zr<|zp (Ab R R Dg)<|zp (Aa R R Ah R R)<|zp (Ab R R Dg)<|zp (Aa R R Ah R R)<|zp (A9 R R R)<|zn<|?_
 refine zd R (fun c19=> ?_) (fun c19=> ?_)
 refine zs<|zr<|zp (Ab R R Dg)<|zp (Aa R R Ah R R)<|zp (Ab R R Dg)<|zp (Aa R R Ah R R)<|zp (A5 R R R)<|zn<|?_
 refine zd R (fun c24=> ?_) (fun c24=> ?_)
 exact zr<|za R R<|zn<|zt<|z1 R R (rI (by rw [Ki,if_neg c9,if_pos c19,if_pos c24]))
 exact zi<|zr<|za R R<|zn<|zt<|z1 R R (rI (by rw [Ki,if_neg c9,if_pos c19,if_neg c24]))
 exact zi<|zr<|za R R<|zn<|zt<|z1 R R (rI (by rw [Ki,if_neg c9,if_neg c19]))
theorem X6 (n:Int):XC Tryz.prog 167 [.v (.int .i64 n)] (fun r=>r=dB (decide (1≤n∧n≤32))):=by
 refine Ao Z5 Tryz.func167 R R lb<|zr<|za R R<|znr<|zm R R<|zp (E4 R R R)<|zm R R<|?_
 refine XL.dec 5 R (fun g5=> ?_) (fun g5=> ?_)
 exact zm R R<|zp (Ha R R R)<|zq R R R<|za R R<|zn<|zt<|z1 R R (rB (by rw [decide_eq_decide];omega))
 exact zk 2 R<|zq R R R<|za R R<|zn<|zt<|z1 R R (rB (by rw [eq_comm,decide_eq_false_iff_not];omega))
theorem Ak8 {a b:Int} (ha:0≤a) (hb:0<b):Int.gcd b (a % b)=Int.gcd a b:=by
 rw [Int.gcd_comm a b,Int.gcd_comm b (a % b),Int.gcd_comm b a]
 obtain ⟨m,rfl⟩:=Int.eq_ofNat_of_zero_le ha
 obtain ⟨n,rfl⟩:=Int.eq_ofNat_of_zero_le (Int.le_of_lt hb)
 rw [show ((m:Int) % (n:Int))=((m % n:Nat):Int) from by simp]
 simp only [Int.gcd_natCast_natCast]
 rw [Nat.gcd_comm m n, ←Nat.gcd_rec n m]
theorem Ags (a b:Int) (ha:0≤a) (hb:0≤b):XC Tryz.prog 190 [.v (.int .i64 a), .v (.int .i64 b)] (fun r=>r=dI (Int.gcd a b)):=by
 refine Ao Zl Tryz.func190 R R lb<|zr<|za R R<|zn<|zs<|Ai<|?_
 refine Av (α:=Int × Int) (fun p=>0≤p.1∧0≤p.2∧Int.gcd p.1 p.2=Int.gcd a b) (fun p=>mkF [(0, .d (dI p.1)),(1, .d (dI p.2)),(4, .d (dI 0))]) (fun p=>mkH []) (fun p=>p.2.toNat) ((a,b)) (⟨ha,hb,R⟩) ?_ ?_ ?_
 exact fz ⟨sr,sr,sr,trivial⟩
 exact HSub.nil
 intro p hk0
 obtain ⟨h1,h2,h3⟩:=hk0
 refine zs<|zr<|zm R R<|zp (A5 R R R)<|zn<|?_
 refine zd R (fun c6=> ?_) (fun c6=> ?_)
 refine zi<|Ai<|Bg [] (by kernel_rfl) (by kernel_rfl) (by kernel_rfl) (by decide)<|ym R R<|ym R R<|ym R R<|yp (F5 R R R (by omega) (by omega))<|ya R R<|ya R R<|?_
 refine ChK.nil ⟨by kernel_rfl, ?_⟩
 refine Hl<|?_
 exact Al ((p.2,p.1 % p.2)) (⟨h2,Int.emod_nonneg _ (by omega),by rw [←h3];exact Ak8 h1 c6⟩) (by have:=Int.emod_lt_of_pos p.1 c6;have:=Int.emod_nonneg p.1 (show p.2≠0 by omega);simp only;omega) (fz ⟨sr,sr,sr,trivial⟩) (HSub.nil)
 have he:p.2=0:=by omega
 have hg:p.1=(Int.gcd a b:Int):=by rw [←h3,he,Int.gcd_zero_right];omega
 exact At<|zr<|zm R R<|za R R<|zn<|zt<|z1 R R (rI hg)
theorem K4 {a b:Int} (h:0≤a) (h1:1≤b):a≤a*b:=by
 have:=Int.mul_le_mul_of_nonneg_left h1 h
 omega
def hits (l:List Tp) (n:Int):Nat:=(l.filter fun t=>decide (t.has n)).length
def Fx (n:Int) (p:Int × Int) (t:Tp):Int × Int:=
 if t.has n then (p.1*t.normal / (Int.gcd (p.1*t.normal) (p.2*t.actual):Int),p.2*t.actual / (Int.gcd (p.1*t.normal) (p.2*t.actual):Int)) else p
def Ay (l:List Tp) (n:Int):Int × Int:=l.foldl (Fx n) (1,1)
theorem H1 (l:List Tp) (t:Tp) (n:Int):hits (l++ [t]) n=hits l n+(if t.has n then 1 else 0):=by
 unfold hits
 rw [List.filter_append,List.length_append]
 by_cases h:t.has n<;>simp [h]
theorem Nt (l:List Tp) (k:Nat) (n:Int):hits (l.take k) n≤hits l n:=by
 unfold hits
 exact ((List.take_sublist k l).filter _).length_le
theorem Wk (l:List Tp) (k:Nat) (n:Int):hits (l.drop k) n≤hits l n:=by
 unfold hits
 exact ((List.drop_sublist k l).filter _).length_le
theorem Lz (l:List Tp) (t:Tp) (n:Int):Ay (l++ [t]) n=Fx n (Ay l n) t:=by
 unfold Ay
 rw [List.foldl_append]
 rfl
theorem Uv {l:List Tp} (h:∀t∈l,t.ok) (k:Nat):∀t∈l.take k,t.ok:=fun t ht=>h t (List.mem_of_mem_take ht)
theorem Aeq {l:List Tp} (h:∀t∈l,t.ok) (k:Nat):∀t∈l.drop k,t.ok:=fun t ht=>h t (List.mem_of_mem_drop ht)
theorem L9 {a b:Int} (ha:1≤a) (hb:1≤b):1≤a / (Int.gcd a b:Int)∧a / (Int.gcd a b:Int)≤a∧1≤(Int.gcd a b:Int)∧(Int.gcd a b:Int)≤a:=by
 have hg:0<Int.gcd a b:=Int.gcd_pos_of_ne_zero_left b (by omega)
 have hd:(Int.gcd a b:Int) ∣ a:=Int.gcd_dvd_left a b
 have hle:(Int.gcd a b:Int)≤a:=Int.le_of_dvd (by omega) hd
 refine ⟨?_,Int.ediv_le_self _ (by omega),by omega,hle⟩
 exact (Int.le_ediv_iff_mul_le (by omega)).2 (by omega)
theorem Ab7 {n:Int} {p:Int × Int} {t:Tp} (ht:t.ok) {B:Int} (h1:1≤p.1) (h2:p.1≤B) (h3:1≤p.2) (h4:p.2≤B):
  1≤(Fx n p t).1∧(Fx n p t).1≤(if t.has n then B*32 else B)∧1≤(Fx n p t).2∧(Fx n p t).2≤(if t.has n then B*32 else B):=by
 unfold Fx
 obtain ⟨_,_,_,_,q1,q2,q3,q4⟩:=ht
 split
 ·have e1:1≤p.1*t.normal:=Int.le_trans h1 (K4 (by omega) q3)
  have e2:1≤p.2*t.actual:=Int.le_trans h3 (K4 (by omega) q1)
  have e3:p.1*t.normal≤B*32:=Int.mul_le_mul h2 q4 (by omega) (by omega)
  have e4:p.2*t.actual≤B*32:=Int.mul_le_mul h4 q2 (by omega) (by omega)
  have g1:=L9 e1 e2
  have g2:=L9 e2 e1
  rw [Int.gcd_comm] at g2
  exact ⟨g1.1,by omega,g2.1,by omega⟩
 ·exact ⟨h1,h2,h3,h4⟩
theorem Kw {α:Type} {p:List α→Prop} (h0:p []) (hs:∀l a,p l→p (l++ [a])) (l:List α):p l:=by
 have:∀k,k≤l.length→p (l.take k):=by
  intro k
  induction k with
  |zero=>intro _;rw [List.take_zero];exact h0
  |succ k ih=>
   intro hk
   have e:l[k]? =some l[k]:=List.getElem?_eq_getElem (by omega)
   rw [Bp e]
   exact hs _ _ (ih (by omega))
 have h:=this l.length (Nat.le_refl _)
 rwa [List.take_length] at h
theorem Qi (l:List Tp) (n:Int):(∀t∈l,t.ok)→1≤(Ay l n).1∧(Ay l n).1≤32 ^ hits l n∧1≤(Ay l n).2∧(Ay l n).2≤32 ^ hits l n:=by
 refine Kw (p:=fun l=>(∀t∈l,t.ok)→1≤(Ay l n).1∧(Ay l n).1≤32 ^ hits l n∧1≤(Ay l n).2∧(Ay l n).2≤32 ^ hits l n) (fun _=>by simp [Ay,hits]) (fun l t ih hl=> ?_) l
 obtain ⟨h1,h2,h3,h4⟩:=ih (fun t ht=>hl t (List.mem_append_left _ ht))
 have:=Ab7 (n:=n) (hl t (List.mem_append_right _ (List.mem_singleton.2 rfl))) h1 h2 h3 h4
 rw [Lz,H1]
 split at this
 ·rename_i h;rw [if_pos h,Int.pow_succ];exact this
 ·rename_i h;rw [if_neg h];exact this
theorem Sp {l:List Tp} {n:Int} (hl:∀t∈l,t.ok) (h:hits l n≤3):1≤(Ay l n).1∧(Ay l n).1≤32768∧1≤(Ay l n).2∧(Ay l n).2≤32768:=by
 have:=Qi l n hl
 have e:(32:Int) ^ hits l n≤32768:=by
  generalize hits l n=k at*
  match k,h with
  |0,_=>decide
  |1,_=>decide
  |2,_=>decide
  |3,_=>decide
  |k+4,h=>omega
 omega
theorem Vv {l:List Tp} {k:Nat} {t:Tp} {n:Int} (h:l[k]? =some t) (ht:t.has n):Ay (l.take (k+1)) n=((Ay (l.take k) n).1*t.normal / (Int.gcd ((Ay (l.take k) n).1*t.normal) ((Ay (l.take k) n).2*t.actual):Int),(Ay (l.take k) n).2*t.actual / (Int.gcd ((Ay (l.take k) n).1*t.normal) ((Ay (l.take k) n).2*t.actual):Int)):=by
 rw [Bp h,Lz,Fx,if_pos ht]
theorem Tz {l:List Tp} {k:Nat} {t:Tp} {n:Int} (h:l[k]? =some t) (ht:¬t.has n):Ay (l.take (k+1)) n=Ay (l.take k) n:=by
 rw [Bp h,Lz,Fx,if_neg ht]
theorem Afs (l:List Tp) (n:Int) (hl:∀t∈l,t.ok) (hh:hits l n≤3) (h0:0≤n) (h1:n≤128):XC Tryz.prog 181 [.sl 4 (l.map Tp.c), .v (.int .i64 n)] (fun r=>r= .tup [dI (Ay l n).1,dI (Ay l n).2]):=by
 refine Ao Zt Tryz.func181 R R lb<|zr<|za R R<|za R R<|znr<|za R R<|za R R<|zn<|zs<|zr<|zm R R<|XL.len R R R Tryz.underlying23 fun hl10=>zm R R<|zn<|?_
 refine Ai<|?_
 refine Av (α:=Nat) (fun k=>k≤l.length) (fun k=>mkF [(1, .d (dI n)),(4, .d (dI (Ay (l.take k) n).1)),(5, .d (dI (Ay (l.take k) n).2)),(9, .d (.sl 4 (l.map Tp.c))),(10, .d (dI l.length)),(11, .d (dI k))]) (fun k=>mkH []) (fun k=>l.length - k) (0) (Nat.zero_le _) ?_ ?_ ?_
 exact fz ⟨sr,sr,sr,sr,sr,sr,trivial⟩
 exact HSub.nil
 intro k hk0
 refine zr<|zp (Aq R R R)<|zn<|zs<|?_
 refine zd R (fun c12=> ?_) (fun c12=> ?_)
 have hk0a:k<l.length:=by omega
 obtain ⟨x0,hx0⟩:=Ap hk0a
 have hok:x0.ok:=hl x0 (List.mem_of_getElem? hx0)
 have hb:=Sp (n:=n) (Uv hl k) (Nat.le_trans (Nt l k n) hh)
 have hok2:=hok
 simp only [Tp.ok] at hok2
 have e1:1≤(Ay (l.take k) n).1*x0.normal:=Int.le_trans hb.1 (K4 (by omega) (by omega))
 have e2:1≤(Ay (l.take k) n).2*x0.actual:=Int.le_trans hb.2.2.1 (K4 (by omega) (by omega))
 have e3:(Ay (l.take k) n).1*x0.normal≤32768*32:=Int.mul_le_mul hb.2.1 (by omega) (by omega) (by omega)
 have e4:(Ay (l.take k) n).2*x0.actual≤32768*32:=Int.mul_le_mul hb.2.2.2 (by omega) (by omega) (by omega)
 have g1:=L9 e1 e2
 refine zi<|zs<|Ai<|zr<|zp (Am R R R Ex hx0)<|zp (Ae (s':= .d (.agg (Tp.c x0))) (Ar R R B8 lb) (by kernel_rfl))<|XL.step R (A0 7 (l:= [.d (dI 0), .d (dI 0), .d (dI 0), .d (dI 0)]) R Dx (by kernel_rfl))<|XL.step R (Ag (l':= [.d (dI x0.first), .d (dI x0.count), .d (dI x0.actual), .d (dI x0.normal)]) R R R R Fs R lb (by kernel_rfl))<|znr<|?_
 refine zp (Ae (s':= .d (.agg (Tp.c x0))) (Ac (Ad R R B8 R lb)) (by kernel_rfl))<|zm R R<|XL.call1 R R (R1 _ _ (by assumption) (by omega) (by omega)) R<|zn<|?_
 refine zd R (fun c17=> ?_) (fun c17=> ?_)
 refine zs<|Bg [] (by kernel_rfl) (by kernel_rfl) (by kernel_rfl) (by decide)<|ym R R<|yp (Ab R R Ny)<|yp (Aa R R Ah R R)<|yp (Id R R R (by omega) (by omega))<|ym R R<|yp (Ab R R Lm)<|yp (Aa R R Ah R R)<|yp (Id R R R (by omega) (by omega))<|ya R R<|ya R R<|?_
 refine ChK.nil ⟨by kernel_rfl, ?_⟩
 refine zr<|zm R R<|zm R R<|XL.call1 R R (Ags _ _ (by omega) (by omega)) R<|za R R<|zn<|Bg [] (by kernel_rfl) (by kernel_rfl) (by kernel_rfl) (by decide)<|ym R R<|ym R R<|yp (G2 R R R (by omega) (by omega) (by omega))<|ym R R<|ym R R<|yp (G2 R R R (by omega) (by omega) (by omega))<|ya R R<|?_
 refine ya R R<|?_
 refine ChK.nil ⟨by kernel_rfl, ?_⟩
 refine Af (by kernel_rfl)<|zp (Ak R R R (by omega) (by omega))<|zm R R<|zn<|?_
 exact Al (k+1) (by omega) (by omega) (fz ⟨sr, .same (sI (by rw [Vv hx0 c17])), .same (sI (by rw [Vv hx0 c17])),sr,sr,sr,trivial⟩) (HSub.nil)
 refine zi<|Af (by kernel_rfl)<|zp (Ak R R R (by omega) (by omega))<|zm R R<|zn<|?_
 exact Al (k+1) (by omega) (by omega) (fz ⟨sr, .same (sI (by rw [Tz hx0 c17])), .same (sI (by rw [Tz hx0 c17])),sr,sr,sr,trivial⟩) (HSub.nil)
 have hk0b:k=l.length:=by omega
 have ht:l.take k=l:=by rw [hk0b,List.take_length]
 refine At<|zr<|zm R R<|zm R R<|za R R<|za R R<|zn<|zt<|?_
 exact Bl R (RV.tmp R R) (RV.tmp R R) (r2 (rI (by rw [ht])) (rI (by rw [ht])))
def Dp (l:List Tp) (n w:Int):Int:=if w<0∨7741440<w then 0 else if w*(Ay l n).1 % (Ay l n).2≠0 then 0 else w*(Ay l n).1 / (Ay l n).2
def Dq (l:List Tp) (n w:Int):Int:=if w<0∨7741440<w then 2 else if w*(Ay l n).1 % (Ay l n).2≠0 then 16 else 0
theorem G5 {l:List Tp} {n w:Int} (h:w<0∨7741440<w):0=Dp l n w∧2=Dq l n w:=by simp only [Dp,Dq,if_pos h];exact ⟨trivial,trivial⟩
theorem Ur {l:List Tp} {n w:Int} (h1:¬w<0) (h2:¬7741440<w) (h:w*(Ay l n).1 % (Ay l n).2≠0):0=Dp l n w∧16=Dq l n w:=by simp only [Dp,Dq,if_neg (show ¬(w<0∨7741440<w) by omega),if_pos h];exact ⟨trivial,trivial⟩
theorem Ra {l:List Tp} {n w:Int} (h1:¬w<0) (h2:¬7741440<w) (h:¬w*(Ay l n).1 % (Ay l n).2≠0):w*(Ay l n).1 / (Ay l n).2=Dp l n w∧0=Dq l n w:=by simp only [Dp,Dq,if_neg (show ¬(w<0∨7741440<w) by omega),if_neg h];exact ⟨trivial,trivial⟩
theorem Sh {l:List Tp} {n w:Int} (hl:∀t∈l,t.ok) (hh:hits l n≤3):0≤Dp l n w∧Dp l n w≤253671505920:=by
 have hb:=Sp hl hh
 unfold Dp
 split
 ·omega
 ·split
  ·omega
  ·have e1:0≤w*(Ay l n).1:=Int.mul_nonneg (by omega) (by omega)
   have e2:w*(Ay l n).1≤7741440*32768:=Int.mul_le_mul (by omega) hb.2.1 (by omega) (by omega)
   exact ⟨Int.ediv_nonneg e1 (by omega),Int.le_trans (Int.ediv_le_self _ e1) (by omega)⟩
theorem Xy (l:List Tp) (n w:Int) (hl:∀t∈l,t.ok) (hh:hits l n≤3) (h0:0≤n) (h1:n≤128):XC Tryz.prog 163 [.sl 4 (l.map Tp.c), .v (.int .i64 n), .v (.int .i64 w)] (fun r=>r= .tup [dI (Dp l n w),dI (Dq l n w)]):=by
 have hb:=Sp hl hh
 refine Ao Z8 Tryz.func163 R R lb<|zr<|za R R<|za R R<|zn<|zs<|zr<|zm R R<|zp (Aq R R R)<|zm R R<|?_
 refine XL.dec 12 R (fun g12=> ?_) (fun g12=> ?_)
 refine zk 2 R<|zq R R R<|zn<|An (by kernel_rfl) R<|zr<|za R R<|za R R<|zn<|zt<|?_
 exact Bl R (RV.tmp R R) (RV.tmp R R) (r2 (rI (G5 (.inl g12)).1) (rI (G5 (l:=l) (n:=n) (.inl g12)).2))
 refine zm R R<|zp (A5 R R R)<|zq R R R<|zn<|?_
 refine zd R (fun c15=> ?_) (fun c15=> ?_)
 refine zr<|za R R<|za R R<|zn<|zt<|?_
 exact Bl R (RV.tmp R R) (RV.tmp R R) (r2 (rI (G5 (.inr c15)).1) (rI (G5 (l:=l) (n:=n) (.inr c15)).2))
 refine zi<|zr<|zm R R<|zm R R<|XL.call1 R R (Afs _ _ (by assumption) (by assumption) (by omega) (by omega)) R<|zm R R<|zp (A6 R R R)<|zp (A6 R R R)<|za R R<|za R R<|zn<|zs<|zs<|?_
 have e1:0≤w*(Ay l n).1:=Int.mul_nonneg (by omega) (by omega)
 have e2:w*(Ay l n).1≤7741440*32768:=Int.mul_le_mul (by omega) hb.2.1 (by omega) (by omega)
 refine Af (by kernel_rfl)<|zm R R<|zm R R<|zp (Id R R R (by omega) (by omega))<|zm R R<|zp (F5 R R R (by omega) (by omega))<|zp (A9 R R R)<|zn<|?_
 refine zd R (fun c27=> ?_) (fun c27=> ?_)
 refine zr<|za R R<|za R R<|zn<|zt<|?_
 exact Bl R (RV.tmp R R) (RV.tmp R R) (r2 (rI (Ur g12 c15 c27).1) (rI (Ur g12 c15 c27).2))
 refine zi<|zr<|zm R R<|zm R R<|zp (Id R R R (by omega) (by omega))<|zm R R<|zp (G2 R R R (by omega) (by omega) (by omega))<|za R R<|za R R<|zn<|zt<|?_
 exact Bl R (RV.tmp R R) (RV.tmp R R) (r2 (rI (Ra g12 c15 c27).1) (rI (Ra g12 c15 c27).2))
end Go.Proofs.YtcihalbakenleaaGreat
namespace Go.Proofs.YtcihalbakenleaaGreat
open Go.RowKit
def Tp.inR (t:Tp) (n:Int):Prop:=1≤t.count∧t.count≤n∧0≤t.first∧t.first≤n - t.count∧(1≤t.actual∧t.actual≤32)∧(1≤t.normal∧t.normal≤32)∧t.actual≠t.normal
instance (t:Tp) (n:Int):Decidable (t.inR n):=by unfold Tp.inR;exact inferInstance
theorem Tp.inR.ok {t:Tp} {n:Int} (h:t.inR n) (hn:n≤128):t.ok:=by unfold Tp.inR at h;unfold Tp.ok;omega
def Ck (t:Tp):List Tp→List Tp
 | []=> []
 |o::r=>if o.e≤t.first then Ck t r else o::r
def Dk (t:Tp) (s:List Tp):Prop:=s.length=3∨match s with| []=>False|o::_=>o.e<t.e
instance (t:Tp) (s:List Tp):Decidable (Dk t s):=by unfold Dk;cases s<;>exact inferInstance
def Hy (p:Option Tp) (t:Tp):Prop:=match p with|some q=>0<Ki q t|none=>False
instance (p:Option Tp) (t:Tp):Decidable (Hy p t):=by unfold Hy;cases p<;>exact inferInstance
def Ei (n:Int):Option Tp→List Tp→List Tp→Int
 |_,_, []=>0
 |p,s,t::l=>if ¬t.inR n then 2 else if Hy p t then 25 else if Dk t (Ck t s) then 21 else Ei n (some t) (t::Ck t s) l
def D2 (l:List Tp) (n:Int):Int:=if n<0∨128<n then 2 else if 16<l.length then 9 else Ei n none [] l
def stk (l:List Tp) (k:Nat):List Tp:=(l.take k).foldl (fun s t=>t::Ck t s) []
def L3 (l:List Tp) (k:Nat):Option Tp:=match k with|0=>none|k+1=>l[k]?
theorem B2 {l:List Tp} {k:Nat} {t:Tp} (h:l[k]? =some t):stk l (k+1)=t::Ck t (stk l k):=by
 unfold stk;rw [Bp h,List.foldl_append];rfl
theorem Es (l:List Tp) (k:Nat):L3 l (k+1)=l[k]? :=rfl
theorem I2 (t:Tp) (s:List Tp):∀x∈Ck t s,x∈s:=by
 induction s with
 |nil=>exact fun x hx=>hx
 |cons o r ih=>
  intro x hx
  unfold Ck at hx
  split at hx
  ·exact List.mem_cons_of_mem _ (ih x hx)
  ·exact hx
theorem Aj9 (t:Tp) (s:List Tp):(Ck t s).length≤s.length:=by
 induction s with
 |nil=>exact Nat.le_refl _
 |cons o r ih=>
  unfold Ck
  split
  ·exact Nat.le_trans ih (Nat.le_succ _)
  ·exact Nat.le_refl _
theorem Ya {t o:Tp} {r s:List Tp} (hs:s=o::r) (h:o.e≤t.first):Ck t s=Ck t r:=by rw [hs,Ck,if_pos h]
theorem Aem {t o:Tp} {r s:List Tp} (hs:s=o::r) (h:¬o.e≤t.first):Ck t s=s:=by rw [hs,Ck,if_neg h]
theorem Yb {t:Tp} {s:List Tp} (hs:¬(0:Int)<s.reverse.length):Ck t s=s:=by
 have:s= []:=List.eq_nil_of_length_eq_zero (by rw [List.length_reverse] at hs;omega)
 rw [this];rfl
theorem Og {s:List Tp} (h:(0:Int)<s.reverse.length):∃o r,s=o::r:=by
 cases s with
 |nil=>simp at h
 |cons o r=>exact ⟨o,r,rfl⟩
theorem Mg {s r:List Tp} {o:Tp} (h:s=o::r):s.reverse[s.length - 1]? =some o:=by rw [h];simp
theorem Lf {s r:List Tp} {o:Tp} (h:s=o::r):((s.reverse).length:Int) - 1=((s.length - 1:Nat):Int):=by rw [h];simp
theorem Of {s r:List Tp} {o:Tp} (h:s=o::r):s.length - 1<s.reverse.length:=by rw [h];simp
theorem Ad7 {s r:List Tp} {o:Tp} (h:s=o::r):some (XO.row 102 4 ((s.reverse.map Tp.c).take (s.length - 1)))=some (XO.row 102 4 (r.reverse.map Tp.c)):=by
 rw [h, ←List.map_take];simp
theorem Ix {s:List Tp} {t:Tp} {l:List Tp} (h:l=t::s):some (XO.row 102 4 (s.reverse.map Tp.c++ [Tp.c t]))=some (XO.row 102 4 (l.reverse.map Tp.c)):=by
 rw [h];simp
theorem T5 {t:Tp} {s:List Tp} (h:(s.reverse.length:Int)=3):Dk t s:= .inl (by rw [List.length_reverse] at h;omega)
theorem Pb {t o:Tp} {s r:List Tp} (hs:s=o::r) (h:o.e<t.e):Dk t s:=by subst hs;exact .inr h
theorem Rd {t o:Tp} {s r:List Tp} (h3:¬(s.reverse.length:Int)=3) (hs:s=o::r) (h:¬o.e<t.e):¬Dk t s:=by
 subst hs;rw [List.length_reverse] at h3;exact fun k=>k.elim (fun k=>by omega) h
theorem Pc {t:Tp} {s:List Tp} (h3:¬(s.reverse.length:Int)=3) (h:¬(0:Int)<s.reverse.length):¬Dk t s:=by
 have:s= []:=List.eq_nil_of_length_eq_zero (by rw [List.length_reverse] at h;omega)
 subst this;exact fun k=>k.elim (fun k=>by simp at k) fun k=>k
theorem C4 {n:Int} {l:List Tp} {k:Nat} {t:Tp} {p s} (h:l[k]? =some t) (h1:¬t.inR n):Ei n p s (l.drop k)=2:=by rw [Cj h,Ei,if_pos h1]
theorem Rs {n:Int} {l:List Tp} {k:Nat} {t:Tp} {p s} (h:l[k]? =some t) (h1:t.inR n) (h2:Hy p t):Ei n p s (l.drop k)=25:=by rw [Cj h,Ei,if_neg (fun h=>h h1),if_pos h2]
theorem Er {n:Int} {l:List Tp} {k:Nat} {t:Tp} {p s} (h:l[k]? =some t) (h1:t.inR n) (h2:¬Hy p t) (h3:Dk t (Ck t s)):Ei n p s (l.drop k)=21:=by rw [Cj h,Ei,if_neg (fun h=>h h1),if_neg h2,if_pos h3]
theorem F1 {n:Int} {l:List Tp} {k:Nat} {t:Tp} {p s} (h:l[k]? =some t) (h1:t.inR n) (h2:¬Hy p t) (h3:¬Dk t (Ck t s)):Ei n p s (l.drop k)=Ei n (some t) (t::Ck t s) (l.drop (k+1)):=by
 rw [Cj h,Ei,if_neg (fun h=>h h1),if_neg h2,if_neg h3]
theorem W4 {l:List Tp} {n:Int} (h:n<0∨128<n):2=D2 l n:=by rw [D2,if_pos h]
theorem Alt {l:List Tp} {n:Int} (h:¬n<0) (h1:¬128<n) (h2:16<(l.length:Int)):9=D2 l n:=by rw [D2,if_neg (by omega),if_pos (by omega)]
theorem Dm {l:List Tp} {n e:Int} (h:¬n<0) (h1:¬128<n) (h2:¬16<(l.length:Int)) (he:e=Ei n none [] l):e=D2 l n:=by rw [D2,if_neg (by omega),if_neg (by omega),he]
theorem Um {l:List Tp} {k:Nat} {t:Tp} (h:¬(0:Int)<k):¬Hy (L3 l k) t:=by
 have:k=0:=by omega
 subst this;exact fun h=>h
theorem Pt {l:List Tp} {k:Nat} {t q:Tp} (hk:0<k) (h:l[k - 1]? =some q):Hy (L3 l k) t↔0<Ki q t:=by
 cases k with
 |zero=>omega
 |succ k=>rw [Es,show l[k]? =some q from h];exact Iff.rfl
theorem Vi (l:List Tp) (n:Int):XC Tryz.prog 139 [.sl 4 (l.map Tp.c), .v (.int .i64 n)] (fun r=>r=dI (D2 l n)):=by
 refine Ao Aaq Tryz.func139 R R lb<|zr<|za R R<|zn<|zs<|zr<|zm R R<|zp (Aq R R R)<|zm R R<|?_
 refine XL.dec 11 R (fun g11=> ?_) (fun g11=> ?_)
 exact zk 2 R<|zq R R R<|zn<|An (by kernel_rfl) R<|zr<|za R R<|zn<|zt<|z1 R R (rI (W4 (by omega)))
 refine zm R R<|zp (A5 R R R)<|zq R R R<|zn<|?_
 refine zd R (fun c14=> ?_) (fun c14=> ?_)
 exact zr<|za R R<|zn<|zt<|z1 R R (rI (W4 (by omega)))
 refine zi<|zs<|zr<|zm R R<|XL.len R R R Tryz.underlying23 fun hl16=>zp (A5 R R R)<|zn<|?_
 refine zd R (fun c17=> ?_) (fun c17=> ?_)
 exact zr<|za R R<|zn<|zt<|z1 R R (rI (Alt g11 c14 c17))
 refine zi<|zr<|XL.step R (A0 5 (l:= [.d (.v (.slice none 0 0))]) R Amf (by kernel_rfl))<|znr<|zp (Afy R)<|zp (A4 R (by conv=>lhs;whnf))<|?_
 refine zn<|zs<|zr<|zm R R<|XL.len R R R Tryz.underlying23 fun hl20=>zm R R<|zn<|Ai<|Pu 900 5 0 102 4 (l':= [.own 900]) R R (by decide) (by kernel_rfl)<|?_
 refine Av (α:=Nat) (fun k=>k≤l.length∧Ei n (L3 l k) (stk l k) (l.drop k)=Ei n none [] l∧(stk l k).length≤3∧∀t∈stk l k,t.inR n) (fun k=>mkF [(0, .d (.sl 4 (l.map Tp.c))),(1, .d (dI n)),(6, .fn 165 [] [.ptr 5 0 0]),(19, .d (.sl 4 (l.map Tp.c))),(20, .d (dI l.length)),(21, .d (dI k))]) (fun k=>mkH [(5, .box [.own 900]),(900, .row 102 4 ((stk l k).reverse.map Tp.c))]) (fun k=>l.length - k) (0) (⟨Nat.zero_le _,by rw [List.drop_zero];rfl,Nat.zero_le _,fun t ht=>by cases ht⟩) ?_ ?_ ?_
 exact fz ⟨sr,sr,sr,sr,sr,sr,trivial⟩
 exact gz ⟨R,R,trivial⟩
 intro k hk0
 obtain ⟨hk,hgo,hst,hall⟩:=hk0
 refine zr<|zp (Aq R R R)<|zn<|zs<|?_
 refine zd R (fun c22=> ?_) (fun c22=> ?_)
 have hk0a:k<l.length:=by omega
 obtain ⟨x0,hx0⟩:=Ap hk0a
 refine zi<|zs<|Ai<|zr<|zm R R<|zp (Am R R R Ex hx0)<|zp (Ae (s':= .d (.agg (Tp.c x0))) (Ar R R B8 lb) (by kernel_rfl))<|XL.step R (A0 8 (l:= [.d (dI 0), .d (dI 0), .d (dI 0), .d (dI 0)]) R Dx (by kernel_rfl))<|za R R<|?_
 refine XL.step R (Ag (l':= [.d (dI x0.first), .d (dI x0.count), .d (dI x0.actual), .d (dI x0.normal)]) R R R R Fs R lb (by kernel_rfl))<|zn<|zs<|zr<|zp (Ab R R Dg)<|zp (Aa R R Ah R R)<|zp (Aq R R R)<|zm R R<|?_
 refine XL.dec 29 R (fun g29=> ?_) (fun g29=> ?_)
 refine zk 4 R<|zq R R R<|zm R R<|zk 3 R<|zq R R R<|zm R R<|zk 7 R<|zq R R R<|zm R R<|zk 4 R<|zq R R R<|zm R R<|zk 4 R<|zq R R R<|?_
 exact zm R R<|zk 5 R<|zq R R R<|zn<|An (by kernel_rfl) R<|zr<|za R R<|zn<|zt<|z1 R R (rI (Dm g11 c14 c17 (by rw [←hgo,C4 hx0 (by unfold Tp.inR;omega)])))
 refine zp (Ab R R Dg)<|zp (Aa R R Ah R R)<|zm R R<|zp (A5 R R R)<|zq R R R<|zm R R<|?_
 refine XL.dec 35 R (fun g35=> ?_) (fun g35=> ?_)
 refine zk 3 R<|zq R R R<|zm R R<|zk 7 R<|zq R R R<|zm R R<|zk 4 R<|zq R R R<|zm R R<|zk 4 R<|zq R R R<|zm R R<|zk 5 R<|zq R R R<|?_
 exact zn<|An (by kernel_rfl) R<|zr<|za R R<|zn<|zt<|z1 R R (rI (Dm g11 c14 c17 (by rw [←hgo,C4 hx0 (by unfold Tp.inR;omega)])))
 refine zp (Ab R R By)<|zp (Aa R R Ah R R)<|zp (Aq R R R)<|zq R R R<|zm R R<|?_
 refine XL.dec 40 R (fun g40=> ?_) (fun g40=> ?_)
 refine zk 7 R<|zq R R R<|zm R R<|zk 4 R<|zq R R R<|zm R R<|zk 4 R<|zq R R R<|zm R R<|zk 5 R<|zq R R R<|zn<|An (by kernel_rfl) R<|zr<|?_
 exact za R R<|zn<|zt<|z1 R R (rI (Dm g11 c14 c17 (by rw [←hgo,C4 hx0 (by unfold Tp.inR;omega)])))
 refine zp (Ab R R By)<|zp (Aa R R Ah R R)<|zm R R<|zp (Ab R R Dg)<|zp (Aa R R Ah R R)<|zp (Di R R R (by omega) (by omega))<|zp (A5 R R R)<|zq R R R<|zm R R<|?_
 refine XL.dec 49 R (fun g49=> ?_) (fun g49=> ?_)
 exact zk 4 R<|zq R R R<|zm R R<|zk 4 R<|zq R R R<|zm R R<|zk 5 R<|zq R R R<|zn<|An (by kernel_rfl) R<|zr<|za R R<|zn<|zt<|z1 R R (rI (Dm g11 c14 c17 (by rw [←hgo,C4 hx0 (by unfold Tp.inR;omega)])))
 refine zp (Ab R R Lm)<|zp (Aa R R Ah R R)<|XL.call1 R R (X6 _) R<|zp (Bo R R)<|zq R R R<|zm R R<|?_
 refine XL.dec 55 R (fun g55=> ?_) (fun g55=> ?_)
 exact zk 4 R<|zq R R R<|zm R R<|zk 5 R<|zq R R R<|zn<|An (by kernel_rfl) R<|zr<|za R R<|zn<|zt<|z1 R R (rI (Dm g11 c14 c17 (by rw [←hgo,C4 hx0 (by unfold Tp.inR;omega)])))
 refine zp (Ab R R Ny)<|zp (Aa R R Ah R R)<|XL.call1 R R (X6 _) R<|zp (Bo R R)<|zq R R R<|zm R R<|?_
 refine XL.dec 61 R (fun g61=> ?_) (fun g61=> ?_)
 exact zk 5 R<|zq R R R<|zn<|An (by kernel_rfl) R<|zr<|za R R<|zn<|zt<|z1 R R (rI (Dm g11 c14 c17 (by rw [←hgo,C4 hx0 (by unfold Tp.inR;omega)])))
 refine zp (Ab R R Lm)<|zp (Aa R R Ah R R)<|zp (Ab R R Ny)<|zp (Aa R R Ah R R)<|zp (Az R R R)<|zq R R R<|zn<|?_
 refine zd R (fun c67=> ?_) (fun c67=> ?_)
 exact zr<|za R R<|zn<|zt<|z1 R R (rI (Dm g11 c14 c17 (by rw [←hgo,C4 hx0 (by unfold Tp.inR;omega)])))
 have hin:x0.inR n:=by unfold Tp.inR;omega
 have hok:x0.ok:=hin.ok (by omega)
 refine zi<|zs<|zs<|?_
 by_cases q69:(0:Int)<(k:Int)
 obtain ⟨q,hq⟩:∃q,l[k - 1]? =some q:=Ap (by omega)
 refine Bg [] (by kernel_rfl) (by kernel_rfl) (by kernel_rfl) (by decide)<|ym R R<|yp (Dv (A5 R R R) (q69))<|ym R R<|ym R R<|ym R R<|yp (Di R R R (by omega) (by omega))<|yp (Eu R R R (by omega:(k:Int) - 1=((k - 1:Nat):Int)) Ex hq)<|yp (Ae (s':= .d (.agg (Tp.c q))) (Ar R R B8 lb) (by kernel_rfl))<|?_
 refine yp (Ae (s':= .d (.agg (Tp.c x0))) (Ac (Ad R R B8 R lb)) (by kernel_rfl))<|ChK.cons R (CStep.call R (Akj _ _) R)<|yp (A5 R R R)<|yp (A7 R R (by conv=>lhs;whnf))<|?_
 refine ChK.nil ⟨by kernel_rfl, ?_⟩
 refine zd R (fun c79=> ?_) (fun c79=> ?_)
 exact zr<|za R R<|zn<|zt<|z1 R R (rI (Dm g11 c14 c17 (by rw [←hgo,Rs hx0 hin ((Pt (by omega) hq).2 c79)])))
 have hna:¬Hy (L3 l k) x0:=fun h=>c79 ((Pt (by omega) hq).1 h)
 refine zi<|zr<|zp (A3 R (by conv=>lhs;whnf))<|?_
 refine zp (Ae (s':= .d (.agg (Tp.c x0))) (Ac (Ad R R B8 R lb)) (by kernel_rfl))<|?_
 refine XL.inl 900001 [(0, .d (.sl 4 (l.map Tp.c))),(1, .d (dI n)),(6, .fn 165 [] [.ptr 5 0 0]),(19, .d (.sl 4 (l.map Tp.c))),(20, .d (dI l.length)),(21, .d (dI k))] R R .s Q0 Tryz.func165 R R lb (by simp only [List.forall_mem_cons];exact ⟨⟨Nat.le_of_ble_eq_true rfl,rfl⟩,⟨⟨Nat.le_of_ble_eq_true rfl,rfl⟩,⟨⟨Nat.le_of_ble_eq_true rfl,rfl⟩,⟨⟨Nat.le_of_ble_eq_true rfl,rfl⟩,⟨⟨Nat.le_of_ble_eq_true rfl,rfl⟩,⟨⟨Nat.le_of_ble_eq_true rfl,rfl⟩,fun p hp=>(by cases hp)⟩⟩⟩⟩⟩⟩) fun u1=>?_
 refine zr<|XL.step R (As 1002 (l:= [.d (dI x0.first), .d (dI x0.count), .d (dI x0.actual), .d (dI x0.normal)]) R R (by kernel_rfl))<|za R R<|zn<|zs<|Ai<|?_
 refine Av (α:=List Tp) (fun s=>Ck x0 s=Ck x0 (stk l k)∧s.length≤3∧∀t∈s,t.inR n) (fun s=>mkF [(1, .ptr 5 0 0),(2, .ptr 1002 0 0),(3, .d (dB false))]) (fun s=>mkH [(5, .box [.own 900]),(900, .row 102 4 (s.reverse.map Tp.c)),(1002, .box ((Tp.c x0).map S.d)),(900001, .ghost u1 [(0, .d (.sl 4 (l.map Tp.c))),(1, .d (dI n)),(6, .fn 165 [] [.ptr 5 0 0]),(19, .d (.sl 4 (l.map Tp.c))),(20, .d (dI l.length)),(21, .d (dI k))])]) (fun s=>s.length) ((stk l k)) (⟨R,hst,hall⟩) ?_ ?_ ?_
 exact fz ⟨sr,sr,sr,trivial⟩
 exact gz ⟨R,R,R,R,trivial⟩
 intro s hk0i
 obtain ⟨hp,hl3,hso⟩:=hk0i
 have hrl:s.reverse.length=s.length:=List.length_reverse
 refine zs<|zs<|?_
 by_cases q7i:(0:Int)<(s.reverse.length:Int)
 obtain ⟨o,r,hs⟩:=Og q7i
 have hoo:o.ok:=(hso o (by rw [hs];exact List.mem_cons_self)).ok (by omega)
 refine Bg [] (by kernel_rfl) (by kernel_rfl) (by kernel_rfl) (by decide)<|yp (Aa R R B0 R R)<|yp (Ce R R R Tryz.underlying23)<|yp (Dv (A5 R R R) (q7i))<|ym R R<|yp (Aa R R B0 R R)<|yp (Aa R R B0 R R)<|yp (Ce R R R Tryz.underlying23)<|yp (Di R R R (by omega) (by omega))<|yp (Dj R R R (Lf hs) R Ex (Of hs))<|?_
 refine yp (Ae (s':= .d (.agg (Tp.c o))) (Il R R B8 R (Cn (Mg hs)) lb) (by kernel_rfl))<|ChK.cons R (CStep.call R (Ho _ (by assumption)) R)<|yp (Ab R R By)<|yp (Aa R R Ah R R)<|yp (Ha R R R)<|yp (A7 R R (by conv=>lhs;whnf))<|?_
 refine ChK.nil ⟨by kernel_rfl, ?_⟩
 refine zd R (fun c19i=> ?_) (fun c19i=> ?_)
 refine zi<|Ai<|Af (by kernel_rfl)<|zp (Aa R R B0 R R)<|zp (Aa R R B0 R R)<|zp (Ce R R R Tryz.underlying23)<|zp (Di R R R (by omega) (by omega))<|XL.step R (Tl R R R Ex (Bd.ati R (Lf hs)) (by simp))<|XL.step R (Ag (l':= [.own 900]) R R R R H9 R lb (by kernel_rfl))<|zn<|Hl<|?_
 exact Al (r) (⟨by rw [←Ya hs c19i];exact hp,by rw [hs] at hl3;simp at hl3;omega,fun t ht=>hso t (by rw [hs];exact List.mem_cons_of_mem _ ht)⟩) (by rw [hs];simp) (fz ⟨sr,sr,sr,trivial⟩) (gz ⟨rfl,Ad7 hs,rfl,rfl,trivial⟩)
 have hend:=Aem hs c19i
 refine At<|zs<|zr<|zp (Aa R R B0 R R)<|zp (Ce R R R Tryz.underlying23)<|za R R<|zn<|zs<|?_
 by_cases q28i:(s.reverse.length:Int)=(3:Int)
 have hov:Dk x0 (Ck x0 (stk l k)):=by rw [←hp,hend];exact T5 q28i
 refine Bg [] (by kernel_rfl) (by kernel_rfl) (by kernel_rfl) (by decide)<|ym R R<|yp (Dv (Az R R R) (q28i))<|ym R R<|ChK.skip R<|ChK.skip R<|ChK.skip R<|ChK.skip R<|ChK.skip R<|ChK.skip R<|ChK.skip R<|ChK.skip R<|ChK.skip R<|ChK.skip R<|?_
 refine ChK.skip R<|ChK.skip R<|ChK.skip R<|yp (A7 R R (by conv=>lhs;whnf))<|?_
 refine ChK.nil ⟨by kernel_rfl, ?_⟩
 refine An (by kernel_rfl) R<|zr<|za R R<|zn<|zt<|?_
 refine (F7 (l:= [(0, .d (.sl 4 (l.map Tp.c))),(1, .d (dI n)),(6, .fn 165 [] [.ptr 5 0 0]),(19, .d (.sl 4 (l.map Tp.c))),(20, .d (dI l.length)),(21, .d (dI k))]) (by kernel_rfl) (rs1 R (RV.tmp R R)) ?_).2
 exact zp (Cu R R)<|zn<|An (by kernel_rfl) R<|zr<|za R R<|zn<|zt<|z1 R R (rI (Dm g11 c14 c17 (by rw [←hgo,Er hx0 hin hna hov])))
 by_cases q31i:(0:Int)<(s.reverse.length:Int)
 obtain ⟨o,r,hs⟩:=Og q31i
 have hoo:o.ok:=(hso o (by rw [hs];exact List.mem_cons_self)).ok (by omega)
 refine Bg [] (by kernel_rfl) (by kernel_rfl) (by kernel_rfl) (by decide)<|ym R R<|yp (G4 (Az R R R) (q28i))<|ym R R<|ym R R<|yp (Dv (A5 R R R) (q31i))<|ym R R<|yp (Ae (s':= .d (.agg (Tp.c x0))) (Ac (Ad R R B8 R lb)) (by kernel_rfl))<|ChK.cons R (CStep.call R (Ho _ (by assumption)) R)<|yp (Aa R R B0 R R)<|ym R R<|?_
 refine yp (Di R R R (by omega) (by omega))<|yp (Dj R R R (Lf hs) R Ex (Of hs))<|yp (Ae (s':= .d (.agg (Tp.c o))) (Il R R B8 R (Cn (Mg hs)) lb) (by kernel_rfl))<|ChK.cons R (CStep.call R (Ho _ (by assumption)) R)<|yp (A5 R R R)<|yp (A7 R R (by conv=>lhs;whnf))<|?_
 refine yp (A7 R R (by conv=>lhs;whnf))<|?_
 refine ChK.nil ⟨by kernel_rfl, ?_⟩
 refine zd R (fun c43i=> ?_) (fun c43i=> ?_)
 have hov:Dk x0 (Ck x0 (stk l k)):=by rw [←hp,hend];exact Pb hs c43i
 refine zr<|za R R<|zn<|zt<|?_
 refine (F7 (l:= [(0, .d (.sl 4 (l.map Tp.c))),(1, .d (dI n)),(6, .fn 165 [] [.ptr 5 0 0]),(19, .d (.sl 4 (l.map Tp.c))),(20, .d (dI l.length)),(21, .d (dI k))]) (by kernel_rfl) (rs1 R (RV.tmp R R)) ?_).2
 exact zp (Cu R R)<|zn<|An (by kernel_rfl) R<|zr<|za R R<|zn<|zt<|z1 R R (rI (Dm g11 c14 c17 (by rw [←hgo,Er hx0 hin hna hov])))
 have hov:¬Dk x0 (Ck x0 (stk l k)):=by rw [←hp,hend];exact Rd q28i hs c43i
 refine zi<|zr<|zp (Aa R R B0 R R)<|zp (Ae (s':= .d (.agg (Tp.c x0))) (Ac (Ad R R B8 R lb)) (by kernel_rfl))<|XL.step R (B6 1046 R Tryz.underlying23 Fs Dx R R (by omega) (by omega))<|XL.step R (Bw R Hs (.own R) (Src.own R) (by unfold maxLen;simp;omega) (by simp;omega))<|?_
 refine XL.step R (Ag (l':= [.own 900]) R R R R H9 R lb (by kernel_rfl))<|znr<|za R R<|zn<|zt<|?_
 refine (F7 (l:= [(0, .d (.sl 4 (l.map Tp.c))),(1, .d (dI n)),(6, .fn 165 [] [.ptr 5 0 0]),(19, .d (.sl 4 (l.map Tp.c))),(20, .d (dI l.length)),(21, .d (dI k))]) (by kernel_rfl) (rs1 R (RV.tmp R R)) ?_).2
 refine zp (Cu R R)<|zn<|Bb (by kernel_rfl) R<|zi<|Af (by kernel_rfl)<|zp (Ak R R R (by omega) (by omega))<|zm R R<|zn<|?_
 exact Al (k+1) (⟨by omega,by rw [Es,hx0,B2 hx0, ←F1 hx0 hin hna hov];exact hgo,by rw [B2 hx0,List.length_cons, ←hp,hend];omega,fun t ht=>by rw [B2 hx0] at ht;rcases List.mem_cons.1 ht with e|e;(· rw [e];exact hin);(· exact hall t (I2 _ _ t e))⟩) (by omega) (fz ⟨sr,sr,sr,sr,sr,sr,trivial⟩) (gz ⟨rfl,Ix (by rw [B2 hx0, ←hp,hend]),trivial⟩)
 have hov:¬Dk x0 (Ck x0 (stk l k)):=by rw [←hp,hend];exact Pc q28i q31i
 refine Bg [] (by kernel_rfl) (by kernel_rfl) (by kernel_rfl) (by decide)<|ym R R<|yp (G4 (Az R R R) (q28i))<|ym R R<|ym R R<|yp (G4 (A5 R R R) (q31i))<|ym R R<|ChK.skip R<|ChK.skip R<|ChK.skip R<|ChK.skip R<|ChK.skip R<|ChK.skip R<|ChK.skip R<|?_
 refine ChK.skip R<|ChK.skip R<|yp (A7 R R (by conv=>lhs;whnf))<|?_
 refine yp (A7 R R (by conv=>lhs;whnf))<|?_
 refine ChK.nil ⟨by kernel_rfl, ?_⟩
 refine Bb (by kernel_rfl) R<|zi<|zr<|zp (Aa R R B0 R R)<|zp (Ae (s':= .d (.agg (Tp.c x0))) (Ac (Ad R R B8 R lb)) (by kernel_rfl))<|XL.step R (B6 1046 R Tryz.underlying23 Fs Dx R R (by omega) (by omega))<|XL.step R (Bw R Hs (.own R) (Src.own R) (by unfold maxLen;simp;omega) (by simp;omega))<|?_
 refine XL.step R (Ag (l':= [.own 900]) R R R R H9 R lb (by kernel_rfl))<|znr<|za R R<|zn<|zt<|?_
 refine (F7 (l:= [(0, .d (.sl 4 (l.map Tp.c))),(1, .d (dI n)),(6, .fn 165 [] [.ptr 5 0 0]),(19, .d (.sl 4 (l.map Tp.c))),(20, .d (dI l.length)),(21, .d (dI k))]) (by kernel_rfl) (rs1 R (RV.tmp R R)) ?_).2
 refine zp (Cu R R)<|zn<|Bb (by kernel_rfl) R<|zi<|Af (by kernel_rfl)<|zp (Ak R R R (by omega) (by omega))<|zm R R<|zn<|?_
 exact Al (k+1) (⟨by omega,by rw [Es,hx0,B2 hx0, ←F1 hx0 hin hna hov];exact hgo,by rw [B2 hx0,List.length_cons, ←hp,hend];omega,fun t ht=>by rw [B2 hx0] at ht;rcases List.mem_cons.1 ht with e|e;(· rw [e];exact hin);(· exact hall t (I2 _ _ t e))⟩) (by omega) (fz ⟨sr,sr,sr,sr,sr,sr,trivial⟩) (gz ⟨rfl,Ix (by rw [B2 hx0, ←hp,hend]),trivial⟩)
 have hend:=Yb (t:=x0) q7i
 refine Bg [] (by kernel_rfl) (by kernel_rfl) (by kernel_rfl) (by decide)<|yp (Aa R R B0 R R)<|yp (Ce R R R Tryz.underlying23)<|yp (G4 (A5 R R R) (q7i))<|ym R R<|ChK.skip R<|ChK.skip R<|ChK.skip R<|ChK.skip R<|ChK.skip R<|ChK.skip R<|ChK.skip R<|ChK.skip R<|ChK.skip R<|?_
 refine ChK.skip R<|yp (A7 R R (by conv=>lhs;whnf))<|?_
 refine ChK.nil ⟨by kernel_rfl, ?_⟩
 refine Bb (by kernel_rfl) R<|At<|zs<|zr<|zp (Aa R R B0 R R)<|zp (Ce R R R Tryz.underlying23)<|za R R<|zn<|zs<|?_
 by_cases q28i:(s.reverse.length:Int)=(3:Int)
 have hov:Dk x0 (Ck x0 (stk l k)):=by rw [←hp,hend];exact T5 q28i
 refine Bg [] (by kernel_rfl) (by kernel_rfl) (by kernel_rfl) (by decide)<|ym R R<|yp (Dv (Az R R R) (q28i))<|ym R R<|ChK.skip R<|ChK.skip R<|ChK.skip R<|ChK.skip R<|ChK.skip R<|ChK.skip R<|ChK.skip R<|ChK.skip R<|ChK.skip R<|ChK.skip R<|?_
 refine ChK.skip R<|ChK.skip R<|ChK.skip R<|yp (A7 R R (by conv=>lhs;whnf))<|?_
 refine ChK.nil ⟨by kernel_rfl, ?_⟩
 refine An (by kernel_rfl) R<|zr<|za R R<|zn<|zt<|?_
 refine (F7 (l:= [(0, .d (.sl 4 (l.map Tp.c))),(1, .d (dI n)),(6, .fn 165 [] [.ptr 5 0 0]),(19, .d (.sl 4 (l.map Tp.c))),(20, .d (dI l.length)),(21, .d (dI k))]) (by kernel_rfl) (rs1 R (RV.tmp R R)) ?_).2
 exact zp (Cu R R)<|zn<|An (by kernel_rfl) R<|zr<|za R R<|zn<|zt<|z1 R R (rI (Dm g11 c14 c17 (by rw [←hgo,Er hx0 hin hna hov])))
 by_cases q31i:(0:Int)<(s.reverse.length:Int)
 obtain ⟨o,r,hs⟩:=Og q31i
 have hoo:o.ok:=(hso o (by rw [hs];exact List.mem_cons_self)).ok (by omega)
 refine Bg [] (by kernel_rfl) (by kernel_rfl) (by kernel_rfl) (by decide)<|ym R R<|yp (G4 (Az R R R) (q28i))<|ym R R<|ym R R<|yp (Dv (A5 R R R) (q31i))<|ym R R<|yp (Ae (s':= .d (.agg (Tp.c x0))) (Ac (Ad R R B8 R lb)) (by kernel_rfl))<|ChK.cons R (CStep.call R (Ho _ (by assumption)) R)<|yp (Aa R R B0 R R)<|ym R R<|?_
 refine yp (Di R R R (by omega) (by omega))<|yp (Dj R R R (Lf hs) R Ex (Of hs))<|yp (Ae (s':= .d (.agg (Tp.c o))) (Il R R B8 R (Cn (Mg hs)) lb) (by kernel_rfl))<|ChK.cons R (CStep.call R (Ho _ (by assumption)) R)<|yp (A5 R R R)<|yp (A7 R R (by conv=>lhs;whnf))<|?_
 refine yp (A7 R R (by conv=>lhs;whnf))<|?_
 refine ChK.nil ⟨by kernel_rfl, ?_⟩
 refine zd R (fun c43i=> ?_) (fun c43i=> ?_)
 have hov:Dk x0 (Ck x0 (stk l k)):=by rw [←hp,hend];exact Pb hs c43i
 refine zr<|za R R<|zn<|zt<|?_
 refine (F7 (l:= [(0, .d (.sl 4 (l.map Tp.c))),(1, .d (dI n)),(6, .fn 165 [] [.ptr 5 0 0]),(19, .d (.sl 4 (l.map Tp.c))),(20, .d (dI l.length)),(21, .d (dI k))]) (by kernel_rfl) (rs1 R (RV.tmp R R)) ?_).2
 exact zp (Cu R R)<|zn<|An (by kernel_rfl) R<|zr<|za R R<|zn<|zt<|z1 R R (rI (Dm g11 c14 c17 (by rw [←hgo,Er hx0 hin hna hov])))
 have hov:¬Dk x0 (Ck x0 (stk l k)):=by rw [←hp,hend];exact Rd q28i hs c43i
 refine zi<|zr<|zp (Aa R R B0 R R)<|zp (Ae (s':= .d (.agg (Tp.c x0))) (Ac (Ad R R B8 R lb)) (by kernel_rfl))<|XL.step R (B6 1046 R Tryz.underlying23 Fs Dx R R (by omega) (by omega))<|XL.step R (Bw R Hs (.own R) (Src.own R) (by unfold maxLen;simp;omega) (by simp;omega))<|?_
 refine XL.step R (Ag (l':= [.own 900]) R R R R H9 R lb (by kernel_rfl))<|znr<|za R R<|zn<|zt<|?_
 refine (F7 (l:= [(0, .d (.sl 4 (l.map Tp.c))),(1, .d (dI n)),(6, .fn 165 [] [.ptr 5 0 0]),(19, .d (.sl 4 (l.map Tp.c))),(20, .d (dI l.length)),(21, .d (dI k))]) (by kernel_rfl) (rs1 R (RV.tmp R R)) ?_).2
 refine zp (Cu R R)<|zn<|Bb (by kernel_rfl) R<|zi<|Af (by kernel_rfl)<|zp (Ak R R R (by omega) (by omega))<|zm R R<|zn<|?_
 exact Al (k+1) (⟨by omega,by rw [Es,hx0,B2 hx0, ←F1 hx0 hin hna hov];exact hgo,by rw [B2 hx0,List.length_cons, ←hp,hend];omega,fun t ht=>by rw [B2 hx0] at ht;rcases List.mem_cons.1 ht with e|e;(· rw [e];exact hin);(· exact hall t (I2 _ _ t e))⟩) (by omega) (fz ⟨sr,sr,sr,sr,sr,sr,trivial⟩) (gz ⟨rfl,Ix (by rw [B2 hx0, ←hp,hend]),trivial⟩)
 have hov:¬Dk x0 (Ck x0 (stk l k)):=by rw [←hp,hend];exact Pc q28i q31i
 refine Bg [] (by kernel_rfl) (by kernel_rfl) (by kernel_rfl) (by decide)<|ym R R<|yp (G4 (Az R R R) (q28i))<|ym R R<|ym R R<|yp (G4 (A5 R R R) (q31i))<|ym R R<|ChK.skip R<|ChK.skip R<|ChK.skip R<|ChK.skip R<|ChK.skip R<|ChK.skip R<|ChK.skip R<|?_
 refine ChK.skip R<|ChK.skip R<|yp (A7 R R (by conv=>lhs;whnf))<|?_
 refine yp (A7 R R (by conv=>lhs;whnf))<|?_
 refine ChK.nil ⟨by kernel_rfl, ?_⟩
 refine Bb (by kernel_rfl) R<|zi<|zr<|zp (Aa R R B0 R R)<|zp (Ae (s':= .d (.agg (Tp.c x0))) (Ac (Ad R R B8 R lb)) (by kernel_rfl))<|XL.step R (B6 1046 R Tryz.underlying23 Fs Dx R R (by omega) (by omega))<|XL.step R (Bw R Hs (.own R) (Src.own R) (by unfold maxLen;simp;omega) (by simp;omega))<|?_
 refine XL.step R (Ag (l':= [.own 900]) R R R R H9 R lb (by kernel_rfl))<|znr<|za R R<|zn<|zt<|?_
 refine (F7 (l:= [(0, .d (.sl 4 (l.map Tp.c))),(1, .d (dI n)),(6, .fn 165 [] [.ptr 5 0 0]),(19, .d (.sl 4 (l.map Tp.c))),(20, .d (dI l.length)),(21, .d (dI k))]) (by kernel_rfl) (rs1 R (RV.tmp R R)) ?_).2
 refine zp (Cu R R)<|zn<|Bb (by kernel_rfl) R<|zi<|Af (by kernel_rfl)<|zp (Ak R R R (by omega) (by omega))<|zm R R<|zn<|?_
 exact Al (k+1) (⟨by omega,by rw [Es,hx0,B2 hx0, ←F1 hx0 hin hna hov];exact hgo,by rw [B2 hx0,List.length_cons, ←hp,hend];omega,fun t ht=>by rw [B2 hx0] at ht;rcases List.mem_cons.1 ht with e|e;(· rw [e];exact hin);(· exact hall t (I2 _ _ t e))⟩) (by omega) (fz ⟨sr,sr,sr,sr,sr,sr,trivial⟩) (gz ⟨rfl,Ix (by rw [B2 hx0, ←hp,hend]),trivial⟩)
 have hna:=Um (l:=l) (t:=x0) q69
 refine Bg [] (by kernel_rfl) (by kernel_rfl) (by kernel_rfl) (by decide)<|ym R R<|yp (G4 (A5 R R R) (q69))<|ym R R<|ChK.skip R<|ChK.skip R<|ChK.skip R<|ChK.skip R<|ChK.skip R<|ChK.skip R<|ChK.skip R<|ChK.skip R<|yp (A7 R R (by conv=>lhs;whnf))<|?_
 refine ChK.nil ⟨by kernel_rfl, ?_⟩
 refine Bb (by kernel_rfl) R<|zi<|zr<|zp (A3 R (by conv=>lhs;whnf))<|?_
 refine zp (Ae (s':= .d (.agg (Tp.c x0))) (Ac (Ad R R B8 R lb)) (by kernel_rfl))<|?_
 refine XL.inl 900002 [(0, .d (.sl 4 (l.map Tp.c))),(1, .d (dI n)),(6, .fn 165 [] [.ptr 5 0 0]),(19, .d (.sl 4 (l.map Tp.c))),(20, .d (dI l.length)),(21, .d (dI k))] R R .s Q0 Tryz.func165 R R lb (by simp only [List.forall_mem_cons];exact ⟨⟨Nat.le_of_ble_eq_true rfl,rfl⟩,⟨⟨Nat.le_of_ble_eq_true rfl,rfl⟩,⟨⟨Nat.le_of_ble_eq_true rfl,rfl⟩,⟨⟨Nat.le_of_ble_eq_true rfl,rfl⟩,⟨⟨Nat.le_of_ble_eq_true rfl,rfl⟩,⟨⟨Nat.le_of_ble_eq_true rfl,rfl⟩,fun p hp=>(by cases hp)⟩⟩⟩⟩⟩⟩) fun u2=>?_
 refine zr<|XL.step R (As 2002 (l:= [.d (dI x0.first), .d (dI x0.count), .d (dI x0.actual), .d (dI x0.normal)]) R R (by kernel_rfl))<|za R R<|zn<|zs<|Ai<|?_
 refine Av (α:=List Tp) (fun s=>Ck x0 s=Ck x0 (stk l k)∧s.length≤3∧∀t∈s,t.inR n) (fun s=>mkF [(1, .ptr 5 0 0),(2, .ptr 2002 0 0),(3, .d (dB false))]) (fun s=>mkH [(5, .box [.own 900]),(900, .row 102 4 (s.reverse.map Tp.c)),(2002, .box ((Tp.c x0).map S.d)),(900002, .ghost u2 [(0, .d (.sl 4 (l.map Tp.c))),(1, .d (dI n)),(6, .fn 165 [] [.ptr 5 0 0]),(19, .d (.sl 4 (l.map Tp.c))),(20, .d (dI l.length)),(21, .d (dI k))])]) (fun s=>s.length) ((stk l k)) (⟨R,hst,hall⟩) ?_ ?_ ?_
 exact fz ⟨sr,sr,sr,trivial⟩
 exact gz ⟨R,R,R,R,trivial⟩
 intro s hk0i
 obtain ⟨hp,hl3,hso⟩:=hk0i
 have hrl:s.reverse.length=s.length:=List.length_reverse
 refine zs<|zs<|?_
 by_cases q7i:(0:Int)<(s.reverse.length:Int)
 obtain ⟨o,r,hs⟩:=Og q7i
 have hoo:o.ok:=(hso o (by rw [hs];exact List.mem_cons_self)).ok (by omega)
 refine Bg [] (by kernel_rfl) (by kernel_rfl) (by kernel_rfl) (by decide)<|yp (Aa R R B0 R R)<|yp (Ce R R R Tryz.underlying23)<|yp (Dv (A5 R R R) (q7i))<|ym R R<|yp (Aa R R B0 R R)<|yp (Aa R R B0 R R)<|yp (Ce R R R Tryz.underlying23)<|yp (Di R R R (by omega) (by omega))<|yp (Dj R R R (Lf hs) R Ex (Of hs))<|?_
 refine yp (Ae (s':= .d (.agg (Tp.c o))) (Il R R B8 R (Cn (Mg hs)) lb) (by kernel_rfl))<|ChK.cons R (CStep.call R (Ho _ (by assumption)) R)<|yp (Ab R R By)<|yp (Aa R R Ah R R)<|yp (Ha R R R)<|yp (A7 R R (by conv=>lhs;whnf))<|?_
 refine ChK.nil ⟨by kernel_rfl, ?_⟩
 refine zd R (fun c19i=> ?_) (fun c19i=> ?_)
 refine zi<|Ai<|Af (by kernel_rfl)<|zp (Aa R R B0 R R)<|zp (Aa R R B0 R R)<|zp (Ce R R R Tryz.underlying23)<|zp (Di R R R (by omega) (by omega))<|XL.step R (Tl R R R Ex (Bd.ati R (Lf hs)) (by simp))<|XL.step R (Ag (l':= [.own 900]) R R R R H9 R lb (by kernel_rfl))<|zn<|Hl<|?_
 exact Al (r) (⟨by rw [←Ya hs c19i];exact hp,by rw [hs] at hl3;simp at hl3;omega,fun t ht=>hso t (by rw [hs];exact List.mem_cons_of_mem _ ht)⟩) (by rw [hs];simp) (fz ⟨sr,sr,sr,trivial⟩) (gz ⟨rfl,Ad7 hs,rfl,rfl,trivial⟩)
 have hend:=Aem hs c19i
 refine At<|zs<|zr<|zp (Aa R R B0 R R)<|zp (Ce R R R Tryz.underlying23)<|za R R<|zn<|zs<|?_
 by_cases q28i:(s.reverse.length:Int)=(3:Int)
 have hov:Dk x0 (Ck x0 (stk l k)):=by rw [←hp,hend];exact T5 q28i
 refine Bg [] (by kernel_rfl) (by kernel_rfl) (by kernel_rfl) (by decide)<|ym R R<|yp (Dv (Az R R R) (q28i))<|ym R R<|ChK.skip R<|ChK.skip R<|ChK.skip R<|ChK.skip R<|ChK.skip R<|ChK.skip R<|ChK.skip R<|ChK.skip R<|ChK.skip R<|ChK.skip R<|?_
 refine ChK.skip R<|ChK.skip R<|ChK.skip R<|yp (A7 R R (by conv=>lhs;whnf))<|?_
 refine ChK.nil ⟨by kernel_rfl, ?_⟩
 refine An (by kernel_rfl) R<|zr<|za R R<|zn<|zt<|?_
 refine (F7 (l:= [(0, .d (.sl 4 (l.map Tp.c))),(1, .d (dI n)),(6, .fn 165 [] [.ptr 5 0 0]),(19, .d (.sl 4 (l.map Tp.c))),(20, .d (dI l.length)),(21, .d (dI k))]) (by kernel_rfl) (rs1 R (RV.tmp R R)) ?_).2
 exact zp (Cu R R)<|zn<|An (by kernel_rfl) R<|zr<|za R R<|zn<|zt<|z1 R R (rI (Dm g11 c14 c17 (by rw [←hgo,Er hx0 hin hna hov])))
 by_cases q31i:(0:Int)<(s.reverse.length:Int)
 obtain ⟨o,r,hs⟩:=Og q31i
 have hoo:o.ok:=(hso o (by rw [hs];exact List.mem_cons_self)).ok (by omega)
 refine Bg [] (by kernel_rfl) (by kernel_rfl) (by kernel_rfl) (by decide)<|ym R R<|yp (G4 (Az R R R) (q28i))<|ym R R<|ym R R<|yp (Dv (A5 R R R) (q31i))<|ym R R<|yp (Ae (s':= .d (.agg (Tp.c x0))) (Ac (Ad R R B8 R lb)) (by kernel_rfl))<|ChK.cons R (CStep.call R (Ho _ (by assumption)) R)<|yp (Aa R R B0 R R)<|ym R R<|?_
 refine yp (Di R R R (by omega) (by omega))<|yp (Dj R R R (Lf hs) R Ex (Of hs))<|yp (Ae (s':= .d (.agg (Tp.c o))) (Il R R B8 R (Cn (Mg hs)) lb) (by kernel_rfl))<|ChK.cons R (CStep.call R (Ho _ (by assumption)) R)<|yp (A5 R R R)<|yp (A7 R R (by conv=>lhs;whnf))<|?_
 refine yp (A7 R R (by conv=>lhs;whnf))<|?_
 refine ChK.nil ⟨by kernel_rfl, ?_⟩
 refine zd R (fun c43i=> ?_) (fun c43i=> ?_)
 have hov:Dk x0 (Ck x0 (stk l k)):=by rw [←hp,hend];exact Pb hs c43i
 refine zr<|za R R<|zn<|zt<|?_
 refine (F7 (l:= [(0, .d (.sl 4 (l.map Tp.c))),(1, .d (dI n)),(6, .fn 165 [] [.ptr 5 0 0]),(19, .d (.sl 4 (l.map Tp.c))),(20, .d (dI l.length)),(21, .d (dI k))]) (by kernel_rfl) (rs1 R (RV.tmp R R)) ?_).2
 exact zp (Cu R R)<|zn<|An (by kernel_rfl) R<|zr<|za R R<|zn<|zt<|z1 R R (rI (Dm g11 c14 c17 (by rw [←hgo,Er hx0 hin hna hov])))
 have hov:¬Dk x0 (Ck x0 (stk l k)):=by rw [←hp,hend];exact Rd q28i hs c43i
 refine zi<|zr<|zp (Aa R R B0 R R)<|zp (Ae (s':= .d (.agg (Tp.c x0))) (Ac (Ad R R B8 R lb)) (by kernel_rfl))<|XL.step R (B6 2046 R Tryz.underlying23 Fs Dx R R (by omega) (by omega))<|XL.step R (Bw R Hs (.own R) (Src.own R) (by unfold maxLen;simp;omega) (by simp;omega))<|?_
 refine XL.step R (Ag (l':= [.own 900]) R R R R H9 R lb (by kernel_rfl))<|znr<|za R R<|zn<|zt<|?_
 refine (F7 (l:= [(0, .d (.sl 4 (l.map Tp.c))),(1, .d (dI n)),(6, .fn 165 [] [.ptr 5 0 0]),(19, .d (.sl 4 (l.map Tp.c))),(20, .d (dI l.length)),(21, .d (dI k))]) (by kernel_rfl) (rs1 R (RV.tmp R R)) ?_).2
 refine zp (Cu R R)<|zn<|Bb (by kernel_rfl) R<|zi<|Af (by kernel_rfl)<|zp (Ak R R R (by omega) (by omega))<|zm R R<|zn<|?_
 exact Al (k+1) (⟨by omega,by rw [Es,hx0,B2 hx0, ←F1 hx0 hin hna hov];exact hgo,by rw [B2 hx0,List.length_cons, ←hp,hend];omega,fun t ht=>by rw [B2 hx0] at ht;rcases List.mem_cons.1 ht with e|e;(· rw [e];exact hin);(· exact hall t (I2 _ _ t e))⟩) (by omega) (fz ⟨sr,sr,sr,sr,sr,sr,trivial⟩) (gz ⟨rfl,Ix (by rw [B2 hx0, ←hp,hend]),trivial⟩)
 have hov:¬Dk x0 (Ck x0 (stk l k)):=by rw [←hp,hend];exact Pc q28i q31i
 refine Bg [] (by kernel_rfl) (by kernel_rfl) (by kernel_rfl) (by decide)<|ym R R<|yp (G4 (Az R R R) (q28i))<|ym R R<|ym R R<|yp (G4 (A5 R R R) (q31i))<|ym R R<|ChK.skip R<|ChK.skip R<|ChK.skip R<|ChK.skip R<|ChK.skip R<|ChK.skip R<|ChK.skip R<|?_
 refine ChK.skip R<|ChK.skip R<|yp (A7 R R (by conv=>lhs;whnf))<|?_
 refine yp (A7 R R (by conv=>lhs;whnf))<|?_
 refine ChK.nil ⟨by kernel_rfl, ?_⟩
 refine Bb (by kernel_rfl) R<|zi<|zr<|zp (Aa R R B0 R R)<|zp (Ae (s':= .d (.agg (Tp.c x0))) (Ac (Ad R R B8 R lb)) (by kernel_rfl))<|XL.step R (B6 2046 R Tryz.underlying23 Fs Dx R R (by omega) (by omega))<|XL.step R (Bw R Hs (.own R) (Src.own R) (by unfold maxLen;simp;omega) (by simp;omega))<|?_
 refine XL.step R (Ag (l':= [.own 900]) R R R R H9 R lb (by kernel_rfl))<|znr<|za R R<|zn<|zt<|?_
 refine (F7 (l:= [(0, .d (.sl 4 (l.map Tp.c))),(1, .d (dI n)),(6, .fn 165 [] [.ptr 5 0 0]),(19, .d (.sl 4 (l.map Tp.c))),(20, .d (dI l.length)),(21, .d (dI k))]) (by kernel_rfl) (rs1 R (RV.tmp R R)) ?_).2
 refine zp (Cu R R)<|zn<|Bb (by kernel_rfl) R<|zi<|Af (by kernel_rfl)<|zp (Ak R R R (by omega) (by omega))<|zm R R<|zn<|?_
 exact Al (k+1) (⟨by omega,by rw [Es,hx0,B2 hx0, ←F1 hx0 hin hna hov];exact hgo,by rw [B2 hx0,List.length_cons, ←hp,hend];omega,fun t ht=>by rw [B2 hx0] at ht;rcases List.mem_cons.1 ht with e|e;(· rw [e];exact hin);(· exact hall t (I2 _ _ t e))⟩) (by omega) (fz ⟨sr,sr,sr,sr,sr,sr,trivial⟩) (gz ⟨rfl,Ix (by rw [B2 hx0, ←hp,hend]),trivial⟩)
 have hend:=Yb (t:=x0) q7i
 refine Bg [] (by kernel_rfl) (by kernel_rfl) (by kernel_rfl) (by decide)<|yp (Aa R R B0 R R)<|yp (Ce R R R Tryz.underlying23)<|yp (G4 (A5 R R R) (q7i))<|ym R R<|ChK.skip R<|ChK.skip R<|ChK.skip R<|ChK.skip R<|ChK.skip R<|ChK.skip R<|ChK.skip R<|ChK.skip R<|ChK.skip R<|?_
 refine ChK.skip R<|yp (A7 R R (by conv=>lhs;whnf))<|?_
 refine ChK.nil ⟨by kernel_rfl, ?_⟩
 refine Bb (by kernel_rfl) R<|At<|zs<|zr<|zp (Aa R R B0 R R)<|zp (Ce R R R Tryz.underlying23)<|za R R<|zn<|zs<|?_
 by_cases q28i:(s.reverse.length:Int)=(3:Int)
 have hov:Dk x0 (Ck x0 (stk l k)):=by rw [←hp,hend];exact T5 q28i
 refine Bg [] (by kernel_rfl) (by kernel_rfl) (by kernel_rfl) (by decide)<|ym R R<|yp (Dv (Az R R R) (q28i))<|ym R R<|ChK.skip R<|ChK.skip R<|ChK.skip R<|ChK.skip R<|ChK.skip R<|ChK.skip R<|ChK.skip R<|ChK.skip R<|ChK.skip R<|ChK.skip R<|?_
 refine ChK.skip R<|ChK.skip R<|ChK.skip R<|yp (A7 R R (by conv=>lhs;whnf))<|?_
 refine ChK.nil ⟨by kernel_rfl, ?_⟩
 refine An (by kernel_rfl) R<|zr<|za R R<|zn<|zt<|?_
 refine (F7 (l:= [(0, .d (.sl 4 (l.map Tp.c))),(1, .d (dI n)),(6, .fn 165 [] [.ptr 5 0 0]),(19, .d (.sl 4 (l.map Tp.c))),(20, .d (dI l.length)),(21, .d (dI k))]) (by kernel_rfl) (rs1 R (RV.tmp R R)) ?_).2
 exact zp (Cu R R)<|zn<|An (by kernel_rfl) R<|zr<|za R R<|zn<|zt<|z1 R R (rI (Dm g11 c14 c17 (by rw [←hgo,Er hx0 hin hna hov])))
 by_cases q31i:(0:Int)<(s.reverse.length:Int)
 obtain ⟨o,r,hs⟩:=Og q31i
 have hoo:o.ok:=(hso o (by rw [hs];exact List.mem_cons_self)).ok (by omega)
 refine Bg [] (by kernel_rfl) (by kernel_rfl) (by kernel_rfl) (by decide)<|ym R R<|yp (G4 (Az R R R) (q28i))<|ym R R<|ym R R<|yp (Dv (A5 R R R) (q31i))<|ym R R<|yp (Ae (s':= .d (.agg (Tp.c x0))) (Ac (Ad R R B8 R lb)) (by kernel_rfl))<|ChK.cons R (CStep.call R (Ho _ (by assumption)) R)<|yp (Aa R R B0 R R)<|ym R R<|?_
 refine yp (Di R R R (by omega) (by omega))<|yp (Dj R R R (Lf hs) R Ex (Of hs))<|yp (Ae (s':= .d (.agg (Tp.c o))) (Il R R B8 R (Cn (Mg hs)) lb) (by kernel_rfl))<|ChK.cons R (CStep.call R (Ho _ (by assumption)) R)<|yp (A5 R R R)<|yp (A7 R R (by conv=>lhs;whnf))<|?_
 refine yp (A7 R R (by conv=>lhs;whnf))<|?_
 refine ChK.nil ⟨by kernel_rfl, ?_⟩
 refine zd R (fun c43i=> ?_) (fun c43i=> ?_)
 have hov:Dk x0 (Ck x0 (stk l k)):=by rw [←hp,hend];exact Pb hs c43i
 refine zr<|za R R<|zn<|zt<|?_
 refine (F7 (l:= [(0, .d (.sl 4 (l.map Tp.c))),(1, .d (dI n)),(6, .fn 165 [] [.ptr 5 0 0]),(19, .d (.sl 4 (l.map Tp.c))),(20, .d (dI l.length)),(21, .d (dI k))]) (by kernel_rfl) (rs1 R (RV.tmp R R)) ?_).2
 exact zp (Cu R R)<|zn<|An (by kernel_rfl) R<|zr<|za R R<|zn<|zt<|z1 R R (rI (Dm g11 c14 c17 (by rw [←hgo,Er hx0 hin hna hov])))
 have hov:¬Dk x0 (Ck x0 (stk l k)):=by rw [←hp,hend];exact Rd q28i hs c43i
 refine zi<|zr<|zp (Aa R R B0 R R)<|zp (Ae (s':= .d (.agg (Tp.c x0))) (Ac (Ad R R B8 R lb)) (by kernel_rfl))<|XL.step R (B6 2046 R Tryz.underlying23 Fs Dx R R (by omega) (by omega))<|XL.step R (Bw R Hs (.own R) (Src.own R) (by unfold maxLen;simp;omega) (by simp;omega))<|?_
 refine XL.step R (Ag (l':= [.own 900]) R R R R H9 R lb (by kernel_rfl))<|znr<|za R R<|zn<|zt<|?_
 refine (F7 (l:= [(0, .d (.sl 4 (l.map Tp.c))),(1, .d (dI n)),(6, .fn 165 [] [.ptr 5 0 0]),(19, .d (.sl 4 (l.map Tp.c))),(20, .d (dI l.length)),(21, .d (dI k))]) (by kernel_rfl) (rs1 R (RV.tmp R R)) ?_).2
 refine zp (Cu R R)<|zn<|Bb (by kernel_rfl) R<|zi<|Af (by kernel_rfl)<|zp (Ak R R R (by omega) (by omega))<|zm R R<|zn<|?_
 exact Al (k+1) (⟨by omega,by rw [Es,hx0,B2 hx0, ←F1 hx0 hin hna hov];exact hgo,by rw [B2 hx0,List.length_cons, ←hp,hend];omega,fun t ht=>by rw [B2 hx0] at ht;rcases List.mem_cons.1 ht with e|e;(· rw [e];exact hin);(· exact hall t (I2 _ _ t e))⟩) (by omega) (fz ⟨sr,sr,sr,sr,sr,sr,trivial⟩) (gz ⟨rfl,Ix (by rw [B2 hx0, ←hp,hend]),trivial⟩)
 have hov:¬Dk x0 (Ck x0 (stk l k)):=by rw [←hp,hend];exact Pc q28i q31i
 refine Bg [] (by kernel_rfl) (by kernel_rfl) (by kernel_rfl) (by decide)<|ym R R<|yp (G4 (Az R R R) (q28i))<|ym R R<|ym R R<|yp (G4 (A5 R R R) (q31i))<|ym R R<|ChK.skip R<|ChK.skip R<|ChK.skip R<|ChK.skip R<|ChK.skip R<|ChK.skip R<|ChK.skip R<|?_
 refine ChK.skip R<|ChK.skip R<|yp (A7 R R (by conv=>lhs;whnf))<|?_
 refine yp (A7 R R (by conv=>lhs;whnf))<|?_
 refine ChK.nil ⟨by kernel_rfl, ?_⟩
 refine Bb (by kernel_rfl) R<|zi<|zr<|zp (Aa R R B0 R R)<|zp (Ae (s':= .d (.agg (Tp.c x0))) (Ac (Ad R R B8 R lb)) (by kernel_rfl))<|XL.step R (B6 2046 R Tryz.underlying23 Fs Dx R R (by omega) (by omega))<|XL.step R (Bw R Hs (.own R) (Src.own R) (by unfold maxLen;simp;omega) (by simp;omega))<|?_
 refine XL.step R (Ag (l':= [.own 900]) R R R R H9 R lb (by kernel_rfl))<|znr<|za R R<|zn<|zt<|?_
 refine (F7 (l:= [(0, .d (.sl 4 (l.map Tp.c))),(1, .d (dI n)),(6, .fn 165 [] [.ptr 5 0 0]),(19, .d (.sl 4 (l.map Tp.c))),(20, .d (dI l.length)),(21, .d (dI k))]) (by kernel_rfl) (rs1 R (RV.tmp R R)) ?_).2
 refine zp (Cu R R)<|zn<|Bb (by kernel_rfl) R<|zi<|Af (by kernel_rfl)<|zp (Ak R R R (by omega) (by omega))<|zm R R<|zn<|?_
 exact Al (k+1) (⟨by omega,by rw [Es,hx0,B2 hx0, ←F1 hx0 hin hna hov];exact hgo,by rw [B2 hx0,List.length_cons, ←hp,hend];omega,fun t ht=>by rw [B2 hx0] at ht;rcases List.mem_cons.1 ht with e|e;(· rw [e];exact hin);(· exact hall t (I2 _ _ t e))⟩) (by omega) (fz ⟨sr,sr,sr,sr,sr,sr,trivial⟩) (gz ⟨rfl,Ix (by rw [B2 hx0, ←hp,hend]),trivial⟩)
 have hk0b:k=l.length:=by omega
 have hz:Ei n none [] l=0:=by rw [←hgo,hk0b,List.drop_length];rfl
 exact At<|zr<|za R R<|zn<|zt<|z1 R R (rI (Dm g11 c14 c17 hz.symm))
end Go.Proofs.YtcihalbakenleaaGreat
namespace Go.Proofs.YtcihalbakenleaaGreat
open Go.RowKit
theorem Wl (t:Tp) (l:List Tp) (n:Int):hits (t::l) n=hits l n+(if t.has n then 1 else 0):=by
 unfold hits
 rw [List.filter_cons]
 by_cases h:t.has n<;>simp [h]
theorem S1 (l:List Tp) (n:Int):hits l n≤l.length:=List.length_filter_le _ _
theorem Ak7 (t:Tp) (s:List Tp) (n:Int) (hn:t.first≤n):hits (Ck t s) n=hits s n:=by
 induction s with
 |nil=>rfl
 |cons o r ih=>
  unfold Ck
  split
  ·rename_i h
   rw [ih,Wl,if_neg (fun k=>by unfold Tp.has at k;unfold Tp.e at h;omega)]
   rfl
  ·rfl
theorem Af0 {q t:Tp} (h:¬0<Ki q t):q.first≤t.first:=by
 unfold Ki at h
 split at h
 ·split at h<;>omega
 ·omega
theorem Afl (n:Int) (l:List Tp):∀(p:Option Tp) (s L:List Tp),Ei n p s l=0→s.length≤3→(∀e,hits L e≤3)→(∀e,(∀q,p=some q→q.first≤e)→hits L e=hits s e)→∀e,hits (L++l) e≤3:=by
 induction l with
 |nil=>intro p s L _ _ h1 _ e;rw [List.append_nil];exact h1 e
 |cons t l ih=>
  intro p s L hz hs h1 h2 e
  rw [Ei] at hz
  split at hz
  ·omega
  ·split at hz
   ·omega
   ·rename_i hin hna
    split at hz
    ·omega
    ·rename_i hov
     have hp:∀q,p=some q→q.first≤t.first:=fun q hq=>by subst hq;exact Af0 hna
     have h3:(t::Ck t s).length≤3:=by
      have h4:=Aj9 t s
      have h5:¬(Ck t s).length=3:=fun k=>hov (.inl k)
      rw [List.length_cons]
      omega
     have heq:∀e,t.first≤e→hits (L++ [t]) e=hits (t::Ck t s) e:=fun e he=>by
      rw [H1,Wl,Ak7 t s e he,h2 e (fun q hq=>Int.le_trans (hp q hq) he)]
     have:=ih (some t) (t::Ck t s) (L++ [t]) hz h3 (fun e=> ?_) (fun e he=>heq e (he t rfl)) e
     ·rw [List.append_assoc] at this;exact this
     ·by_cases he:t.first≤e
      ·rw [heq e he];exact Nat.le_trans (S1 _ _) h3
      ·rw [H1,if_neg (fun k=>he k.1)];exact h1 e
theorem Ajr (n:Int) (l:List Tp):∀(p:Option Tp) (s:List Tp),Ei n p s l=0→∀t∈l,t.inR n:=by
 induction l with
 |nil=>intro p s _ t ht;cases ht
 |cons t l ih=>
  intro p s hz x hx
  rw [Ei] at hz
  split at hz
  ·omega
  ·rename_i hin
   split at hz
   ·omega
   ·split at hz
    ·omega
    ·rcases List.mem_cons.1 hx with e|e
     ·rw [e];exact Decidable.not_not.1 hin
     ·exact ih _ _ hz x e
structure Tups (l:List Tp) (n:Int):Prop where
 bd:0≤n∧n≤128
 len:l.length≤16
 inR:∀t∈l,t.inR n
 ok:∀t∈l,t.ok
 hits:∀e,hits l e≤3
theorem Q7 {l:List Tp} {n:Int} (h:¬D2 l n≠0):Tups l n:=by
 have h0:D2 l n=0:=by omega
 unfold D2 at h0
 split at h0
 ·omega
 ·split at h0
  ·omega
  ·have hi:=Ajr n l _ _ h0
   refine ⟨by omega,by omega,hi,fun t ht=>(hi t ht).ok (by omega),fun e=> ?_⟩
   have:=Afl n l none [] [] h0 (by decide) (fun e=>Nat.zero_le _) (fun e _=>rfl) e
   rwa [List.nil_append] at this
def Cw (l:List Tp):Nat→List Int→List Int
 |_, []=> []
 |i,w::r=>Dp l i w::Cw l (i+1) r
def Ia (l:List Tp):Nat→List Int→Int
 |_, []=>0
 |i,w::r=>if Dq l i w≠0 then Dq l i w else Ia l (i+1) r
def Cr (l:List Tp) (ws:List Int):Int:=if D2 l ws.length≠0 then D2 l ws.length else Ia l 0 ws
def G7 (l:List Tp) (ws:List Int):List Int:=if Cr l ws=0 then Cw l 0 ws else []
theorem Af8 (l:List Tp) (a:List Int) (w:Int):∀i,Cw l i (a++ [w])=Cw l i a++ [Dp l ((i+a.length:Nat):Int) w]:=by
 induction a with
 |nil=>intro i;rfl
 |cons x a ih=>
  intro i
  rw [List.cons_append,Cw,ih (i+1),Cw,List.cons_append,List.length_cons,show i+1+a.length=i+(a.length+1) by omega]
theorem Rv {l:List Tp} {ws:List Int} {k:Nat} {w:Int} (h:ws[k]? =some w):Cw l 0 (ws.take (k+1))=Cw l 0 (ws.take k)++ [Dp l (k:Int) w]:=by
 have hk:=(List.getElem?_eq_some_iff.1 h).1
 rw [Bp h,Af8,List.length_take,Nat.zero_add,Nat.min_eq_left (by omega)]
theorem Ig (l:List Tp) (ws:List Int):∀i,(Cw l i ws).length=ws.length:=by
 induction ws with
 |nil=>intro i;rfl
 |cons w r ih=>intro i;rw [Cw,List.length_cons,ih,List.length_cons]
theorem Vp {l:List Tp} {ws:List Int} {k:Nat} {w:Int} (h:ws[k]? =some w) (hx:¬Dq l k w≠0):Ia l k (ws.drop k)=Ia l (k+1) (ws.drop (k+1)):=by rw [Cj h,Ia,if_neg hx]
theorem I1 {l:List Tp} {ws:List Int} {k:Nat} {w:Int} (h:ws[k]? =some w) (hx:Dq l k w≠0):Ia l k (ws.drop k)=Dq l k w:=by rw [Cj h,Ia,if_pos hx]
theorem Tj {l:List Tp} {ws:List Int} (h:D2 l ws.length≠0): []=G7 l ws∧D2 l ws.length=Cr l ws:=by
 have e:Cr l ws=D2 l ws.length:=by rw [Cr,if_pos h]
 exact ⟨by rw [G7,e,if_neg h],e.symm⟩
theorem Lg {l:List Tp} {ws:List Int} (h:¬D2 l ws.length≠0) {e:Int} (he:e=Ia l 0 ws) (hn:e≠0): []=G7 l ws∧e=Cr l ws:=by
 have e2:Cr l ws=e:=by rw [Cr,if_neg h,he]
 exact ⟨by rw [G7,e2,if_neg hn],e2.symm⟩
theorem Ti {l:List Tp} {ws:List Int} (h:¬D2 l ws.length≠0) (he:Ia l 0 ws=0):Cw l 0 ws=G7 l ws∧0=Cr l ws:=by
 have e2:Cr l ws=0:=by rw [Cr,if_neg h,he]
 exact ⟨by rw [G7,e2,if_pos rfl],e2.symm⟩
theorem Rt (l:List Tp) (ws:List Int):XC Tryz.prog 133 [.sl 4 (l.map Tp.c), .sl 1 (B4 ws)] (fun r=>r= .tup [.sl 1 (B4 (G7 l ws)),dI (Cr l ws)]):=by
 refine Ao Aav Tryz.func133 R R lb<|zr<|za R R<|za R R<|zn<|zs<|zr<|zm R R<|zm R R<|XL.len R R R Tryz.underlying64 fun hl14=>XL.call1 R R (Vi _ _) R<|za R R<|znr<|zm R R<|?_
 refine zp (A9 R R R)<|zn<|?_
 refine zd R (fun c17=> ?_) (fun c17=> ?_)
 refine zr<|zm R R<|za R R<|za R R<|zn<|zt<|?_
 exact Bl R (RV.nil (sz:=1) R R) (RV.tmp R R) (r2 (rSl (Tj c17).1) (rI (Tj c17).2))
 refine zi<|zs<|?_
 have hT:=Q7 c17
 have hbd:=hT.bd
 refine Af (by kernel_rfl)<|zm R R<|XL.len R R R Tryz.underlying64 fun hl20=>XL.step R (Oi 21 (m:=0) (z:=(.int .i64 0)) (zs:= [dI 0]) (sz:=1) (bytes:=8) R R R Tryz.underlying64 (by kernel_rfl) (by kernel_rfl) (by kernel_rfl) (by decide) (by decide) (by omega) (by unfold maxLen;omega) (by omega))<|zp (A4 R (by conv=>lhs;whnf))<|?_
 refine zn<|zs<|zr<|zm R R<|XL.len R R R Tryz.underlying64 fun hl23=>zm R R<|zn<|Ai<|?_
 refine Av (α:=Nat) (fun k=>k≤ws.length∧Ia l k (ws.drop k)=Ia l 0 ws) (fun k=>mkF [(0, .d (.sl 4 (l.map Tp.c))),(7, .own 21),(22, .d (.sl 1 (B4 ws))),(23, .d (dI ws.length)),(24, .d (dI k))]) (fun k=>mkH [(21, .row 3 1 ((Cw l 0 (ws.take k)).map iv))]) (fun k=>ws.length - k) (0) (⟨Nat.zero_le _,by rw [List.drop_zero]⟩) ?_ ?_ ?_
 exact fz ⟨sr,sr,sr,sr,sr,trivial⟩
 exact gz ⟨R,trivial⟩
 intro k hk0
 obtain ⟨hk,hgo⟩:=hk0
 refine zr<|zp (Aq R R R)<|zn<|zs<|?_
 refine zd R (fun c25=> ?_) (fun c25=> ?_)
 have hk0a:k<ws.length:=by omega
 obtain ⟨x0,hx0⟩:=Ap hk0a
 have hok:=hT.ok
 have hh:=hT.hits k
 have hll:(Cw l 0 (ws.take k)).length=k:=by rw [Ig,List.length_take];omega
 refine zi<|zs<|Ai<|zr<|zm R R<|zp (Am R R R C9 hx0)<|zp (Aw R R Ah)<|za R R<|za R R<|znr<|zm R R<|zm R R<|zm R R<|XL.call1 R R (Xy _ _ _ (by assumption) (by assumption) (by omega) (by omega)) R<|?_
 refine zm R R<|zp (A6 R R R)<|zp (A6 R R R)<|za R R<|za R R<|zn<|zs<|zr<|zm R R<|zp (A9 R R R)<|zn<|?_
 refine zd R (fun c37=> ?_) (fun c37=> ?_)
 refine zr<|zm R R<|za R R<|za R R<|zn<|zt<|?_
 exact Bl R (RV.nil (sz:=1) R R) (RV.tmp R R) (r2 (rSl (Lg c17 (by rw [←hgo,I1 hx0 c37]) c37).1) (rI (Lg c17 (by rw [←hgo,I1 hx0 c37]) c37).2))
 refine zi<|Af (by kernel_rfl)<|zp (A3 R (by conv=>lhs;whnf))<|?_
 refine zm R R<|XL.step R (B6 41 R Tryz.underlying64 Df Gt R R (by omega) (by omega))<|XL.step R (Bw R On (.own R) (Src.own R) (by unfold maxLen;simp;omega) (by simp;omega))<|zp (A4 R (by conv=>lhs;whnf))<|?_
 refine zn<|Af (by kernel_rfl)<|zp (Ak R R R (by omega) (by omega))<|zm R R<|zn<|?_
 exact Al (k+1) (⟨by omega,by rw [←Vp hx0 c37];exact hgo⟩) (by omega) (fz ⟨sr,sr,sr,sr,sr,trivial⟩) (gz ⟨Kz rfl (Rv hx0),trivial⟩)
 have hk0b:k=ws.length:=by omega
 have hz:Ia l 0 ws=0:=by rw [←hgo,hk0b,List.drop_length];rfl
 have ht:ws.take k=ws:=by rw [hk0b,List.take_length]
 refine At<|zr<|zp (A3 R (by conv=>lhs;whnf))<|?_
 refine zp (A4 R (by conv=>lhs;whnf))<|?_
 refine za R R<|zn<|zt<|Cp (i:=21) R<|?_
 exact Bl R (RV.tmp R R) (RV.tmp R R) (r2 (rSl (by rw [ht];exact (Ti c17 hz).1)) (rI (Ti c17 hz).2))
abbrev Ke (l:List Tp) (i:Nat):List Tp:=(l.take l.length).drop (i+1)
def Fb (l:List Tp):Nat→List Int→Int→Option Int
 |_, [],acc=>some acc
 |i,w::r,acc=>if Dq l i w≠0 then none else Fb l (i+1) r (acc+Dp l i w)
def Fv (t:Tp) (ws:List Int):List Int:=(ws.drop t.first.toNat).take t.count.toNat
def Qq (a s:Int):Option Int:=((List.range 10).find? fun j=>decide (s=a*(3870720 / 2 ^ j))).map fun j=>(j:Int) - 1
def Fa (l:List Tp) (t:Tp) (ws:List Int):Option Int:=(Fb l t.first.toNat (Fv t ws) 0).bind (Qq t.actual)
def Q6 (l:List Tp) (i:Nat) (ws:List Int):Option Int:=(l[i]?).bind fun t=>Fa (Ke l i) t ws
theorem Kt {l:List Tp} {i:Nat} {t:Tp} (h:l[i]? =some t) (ws:List Int):Q6 l i ws=Fa (Ke l i) t ws:=by rw [Q6,h];rfl
theorem Uq {t:Tp} {ws:List Int} {j:Nat} (hj:j<t.count.toNat):(Fv t ws)[j]? =ws[t.first.toNat+j]? :=by
 rw [Fv,List.getElem?_take,if_pos hj,List.getElem?_drop]
theorem Th {l:List Tp} {i k:Nat} {seg:List Int} {w acc:Int} (h:seg[k]? =some w) (hx:¬Dq l i w≠0):Fb l i (seg.drop k) acc=Fb l (i+1) (seg.drop (k+1)) (acc+Dp l i w):=by rw [Cj h,Fb,if_neg hx]
theorem Tg {l:List Tp} {i k:Nat} {seg:List Int} {w acc:Int} (h:seg[k]? =some w) (hx:Dq l i w≠0):Fb l i (seg.drop k) acc=none:=by rw [Cj h,Fb,if_pos hx]
theorem Vg {l:List Tp} {i k:Nat} {seg:List Int} {acc:Int} (h:seg.length≤k):Fb l i (seg.drop k) acc=some acc:=by rw [List.drop_eq_nil_of_le h,Fb]
theorem Aoa {p:Nat→Bool} {m k:Nat} (hk:k<m) (hp:p k=true) (h:∀j,j<k→p j=false):(List.range m).find? p=some k:=by
 rw [List.find?_range_eq_some]
 exact ⟨hp,List.mem_range.2 hk,fun j hj=>by simp [h j hj]⟩
theorem Aev {a s:Int} {k:Nat} (hk:k<10) (hp:s=a*(3870720 / 2 ^ k)) (h:∀j,j<k→¬s=a*(3870720 / 2 ^ j)):Qq a s=some ((k:Int) - 1):=by
 rw [Qq,Aoa hk (decide_eq_true hp) (fun j hj=>decide_eq_false (h j hj))];rfl
theorem Wf {a s:Int} (h:∀j,j<10→¬s=a*(3870720 / 2 ^ j)):Qq a s=none:=by
 rw [Qq,List.find?_eq_none.2 (fun j hj=>by simp [h j (List.mem_range.1 hj)])];rfl
theorem Lx {l:List Tp} {t:Tp} {ws:List Int} {s:Int} (h:Fb l t.first.toNat (Fv t ws) 0=some s):Fa l t ws=Qq t.actual s:=by rw [Fa,h];rfl
theorem Tf {l:List Tp} {t:Tp} {ws:List Int} (h:Fb l t.first.toNat (Fv t ws) 0=none):Fa l t ws=none:=by rw [Fa,h];rfl
theorem Pd {o:Option Int} (h:o=none):D.tup [dI 0,dB false]= .tup [dI (o.getD 0),dB o.isSome]:=by rw [h];rfl
theorem Yj {o:Option Int} {x:Int} (h:o=some x):D.tup [dI x,dB true]= .tup [dI (o.getD 0),dB o.isSome]:=by rw [h];rfl
theorem Ao2 (k:Nat):0≤(3870720:Int) / 2 ^ k∧(3870720:Int) / 2 ^ k≤3870720:=by
 have h:(0:Int)<2 ^ k:=Int.pow_pos (by omega)
 exact ⟨Int.ediv_nonneg (by omega) (by omega),Int.ediv_le_self _ (by omega)⟩
theorem Ams (l:List Tp) (i:Nat) (t:Tp) (ws:List Int) (ht:l[i]? =some t) (hT:Tups l ws.length):XC Tryz.prog 164 [.sl 4 (l.map Tp.c), .v (.int .i64 i), .sl 1 (B4 ws)] (fun r=>r= .tup [dI ((Fa (Ke l i) t ws).getD 0),dB (Fa (Ke l i) t ws).isSome]):=by
 have hin:=hT.inR t (List.mem_of_getElem? ht)
 have hok:=hT.ok t (List.mem_of_getElem? ht)
 have hbd:=hT.bd
 have hlen:=hT.len
 have hil:=(List.getElem?_eq_some_iff.1 ht).1
 have hin2:=hin
 simp only [Tp.inR] at hin2
 have hte:t.e=t.first+t.count:=rfl
 obtain ⟨f,hf⟩:∃f:Nat,t.first=f:=⟨t.first.toNat,by omega⟩
 have hf2:t.first.toNat=f:=by omega
 have hsl:(Fv t ws).length=t.count.toNat:=by rw [Fv,List.length_take,List.length_drop];omega
 have hoks:∀x∈(l.take l.length).drop (i+1),x.ok:=Aeq (Uv hT.ok _) _
 have hhs:∀e,hits ((l.take l.length).drop (i+1)) e≤3:=fun e=>Nat.le_trans (Wk _ _ e) (Nat.le_trans (Nt _ _ e) (hT.hits e))
 refine Ao Z7 Tryz.func164 R R lb<|zr<|za R R<|za R R<|znr<|zm R R<|zm R R<|zp (Am R R R Ex (ht))<|zp (Ae (s':= .d (.agg (Tp.c t))) (Ar R R B8 lb) (by kernel_rfl))<|XL.step R (A0 8 (l:= [.d (dI 0), .d (dI 0), .d (dI 0), .d (dI 0)]) R Dx (by kernel_rfl))<|?_
 refine XL.step R (Ag (l':= [.d (dI t.first), .d (dI t.count), .d (dI t.actual), .d (dI t.normal)]) R R R R Fs R lb (by kernel_rfl))<|znr<|za R R<|zn<|zs<|zr<|zp (Ab R R By)<|zp (Aa R R Ah R R)<|za R R<|zn<|Ai<|?_
 refine Av (α:=Nat × Int) (fun p=>p.1≤t.count.toNat∧Fb ((l.take l.length).drop (i+1)) (f+p.1) ((Fv t ws).drop p.1) p.2=Fb ((l.take l.length).drop (i+1)) f (Fv t ws) 0∧0≤p.2∧p.2≤(p.1:Int)*253671505920) (fun p=>mkF [(0, .d (.sl 4 (l.map Tp.c))),(1, .d (dI i)),(2, .d (.sl 1 (B4 ws))),(8, .ptr 8 0 0),(9, .d (dI p.2)),(10, .d (dI ((f+p.1:Nat):Int)))]) (fun p=>mkH [(8, .box ((Tp.c t).map S.d))]) (fun p=>t.count.toNat - p.1) ((0,0)) (⟨Nat.zero_le _,by rw [List.drop_zero];rfl,Int.le_refl _,by simp⟩) ?_ ?_ ?_
 exact fz ⟨sr,sr,sr,sr,sr, .same (sI (by rw [hf];rfl)),trivial⟩
 exact gz ⟨R,trivial⟩
 intro p hk0
 obtain ⟨hk,hgo,hs0,hs1⟩:=hk0
 refine zs<|zr<|zm R R<|zp (Ae (s':= .d (.agg (Tp.c t))) (Ac (Ad R R B8 R lb)) (by kernel_rfl))<|XL.call1 R R (Ho _ (by assumption)) R<|zp (Aq R R R)<|zn<|?_
 refine zd R (fun c23=> ?_) (fun c23=> ?_)
 have hkc:p.1<t.count.toNat:=by omega
 obtain ⟨w,hw⟩:∃w,ws[f+p.1]? =some w:=Ap (by omega)
 have hsw:(Fv t ws)[p.1]? =some w:=by rw [Uq hkc,hf2];exact hw
 have hh:=hhs ((f+p.1:Nat):Int)
 have hsb:=Sh (n:=((f+p.1:Nat):Int)) (w:=w) hoks hh
 refine zi<|zs<|Ai<|zs<|Bg [] (by kernel_rfl) (by kernel_rfl) (by kernel_rfl) (by decide)<|ym R R<|ym R R<|yp (Ak R R R (by omega) (by omega))<|yp (Js R R Ex (Bd.ati (a:=i+1) R (by omega)) Bd.no (by omega) (by omega))<|ym R R<|ym R R<|ym R R<|yp (Am R R R C9 (hw))<|yp (Aw R R Ah)<|?_
 refine ChK.cons R (CStep.call R (Xy _ _ _ (by assumption) (by assumption) (by omega) (by omega)) R)<|ym R R<|yp (A6 R R R)<|yp (A6 R R R)<|ya R R<|ya R R<|?_
 refine ChK.nil ⟨by kernel_rfl, ?_⟩
 refine zs<|zr<|zm R R<|zp (A9 R R R)<|zn<|?_
 refine zd R (fun c40=> ?_) (fun c40=> ?_)
 refine zr<|za R R<|za R R<|zn<|zt<|?_
 exact Bl R (RV.tmp R R) (RV.tmp R R) (Pd (Tf (by rw [hf2, ←hgo];exact Tg hsw c40)))
 refine zi<|Af (by kernel_rfl)<|zm R R<|zm R R<|zp (Ak R R R (by omega) (by omega))<|za R R<|zn<|Af (by kernel_rfl)<|zm R R<|zp (Ak R R R (by omega) (by omega))<|za R R<|zn<|?_
 exact Al ((p.1+1,p.2+Dp ((l.take l.length).drop (i+1)) ((f+p.1:Nat):Int) w)) (⟨by simp only;omega,(Th hsw c40).symm.trans hgo,by simp only;omega,by simp only;omega⟩) (by simp only;omega) (fz ⟨sr,sr,sr,sr,sr,sr,trivial⟩) (gz ⟨rfl,trivial⟩)
 have hu:Fb ((l.take l.length).drop (i+1)) t.first.toNat (Fv t ws) 0=some p.2:=by rw [hf2, ←hgo];exact Vg (by omega)
 refine At<|zs<|zr<|za R R<|zn<|Ai<|?_
 refine Av (α:=Nat) (fun k=>k≤10∧∀j,j<k→¬p.2=t.actual*(3870720 / 2 ^ j)) (fun k=>mkF [(8, .ptr 8 0 0),(9, .d (dI p.2)),(13, .d (dI ((k:Int) - 1)))]) (fun k=>mkH [(8, .box ((Tp.c t).map S.d))]) (fun k=>10 - k) (0) (⟨Nat.zero_le _,fun j hj=>absurd hj (Nat.not_lt_zero _)⟩) ?_ ?_ ?_
 exact fz ⟨sr,sr,sr,trivial⟩
 exact gz ⟨R,trivial⟩
 intro k hk2
 obtain ⟨hk,hno⟩:=hk2
 have hkk:((k:Int) - 1+1).toNat=k:=by omega
 have hsh:=Ao2 k
 refine zs<|zr<|zm R R<|zp (Ha R R R)<|zn<|?_
 refine zd R (fun c45=> ?_) (fun c45=> ?_)
 have hml1:0≤t.actual*(3870720 / 2 ^ k):=Int.mul_nonneg (by omega) hsh.1
 have hml2:t.actual*(3870720 / 2 ^ k)≤32*3870720:=Int.mul_le_mul (by omega) hsh.2 hsh.1 (by omega)
 refine zi<|zs<|Ai<|zs<|Bg [] (by kernel_rfl) (by kernel_rfl) (by kernel_rfl) (by decide)<|ym R R<|yp (Ab R R Lm)<|yp (Aa R R Ah R R)<|ym R R<|yp (Ak R R R (by omega) (by omega))<|yp (Al1 R R R (by omega) (by omega))<|yp (Id R R R (by rw [hkk];omega) (by rw [hkk];omega))<|yp (Az R R R)<|?_
 refine ChK.nil ⟨by kernel_rfl, ?_⟩
 refine zd R (fun c55=> ?_) (fun c55=> ?_)
 refine zr<|zm R R<|za R R<|za R R<|zn<|zt<|?_
 exact Bl R (RV.tmp R R) (RV.tmp R R) (Yj (by rw [Lx hu];exact Aev (by omega) (by rw [hkk] at c55;exact c55) hno))
 refine zi<|Af (by kernel_rfl)<|zm R R<|zp (Ak R R R (by omega) (by omega))<|za R R<|zn<|?_
 exact Al (k+1) (⟨by omega,fun j hj=>by by_cases e:j=k;(· subst e;rw [hkk] at c55;exact c55);(· exact hno j (by omega))⟩) (by omega) (fz ⟨sr,sr, .same (sI (by omega)),trivial⟩) (gz ⟨rfl,trivial⟩)
 have hke:k=10:=by omega
 have hnone:Qq t.actual p.2=none:=Wf (fun j hj=>hno j (by omega))
 refine At<|zr<|za R R<|za R R<|zn<|zt<|?_
 exact Bl R (RV.tmp R R) (RV.tmp R R) (Pd (by rw [Lx hu];exact hnone))
theorem Iy {l:List Tp} {ws:List Int} (h:¬Cr l ws≠0):Tups l ws.length:=by
 unfold Cr at h
 split at h
 ·rename_i h2;exact absurd h2 h
 ·rename_i h2;exact Q7 h2
def J5 (l:List Tp) (ws:List Int):Prop:=∀j,j<l.length→(Q6 l j ws).isSome=true
instance (l:List Tp) (ws:List Int):Decidable (J5 l ws):=by unfold J5;exact inferInstance
def Fc (l:List Tp) (ws:List Int):Int:=if Cr l ws≠0 then Cr l ws else if J5 l ws then 0 else 21
def Nc (l:List Tp) (ws:List Int) (k:Nat):List Int:=(List.range k).map fun j=>(Q6 l j ws).getD 0
def Mo (l:List Tp) (ws:List Int):List Int:=if Fc l ws=0 then Nc l ws l.length else []
theorem Afk {l:List Tp} {ws:List Int} {k:Nat} {t:Tp} (h:l[k]? =some t):Nc l ws (k+1)=Nc l ws k++ [(Fa (Ke l k) t ws).getD 0]:=by
 rw [Nc,List.range_succ,List.map_append,List.map_singleton,Kt h];rfl
theorem Ag9 (l:List Tp) (ws:List Int) (k:Nat):(Nc l ws k).length=k:=by rw [Nc,List.length_map,List.length_range]
theorem Aos {l:List Tp} {ws:List Int} (h:Cr l ws≠0): []=Mo l ws∧Cr l ws=Fc l ws:=by
 have e:Fc l ws=Cr l ws:=by rw [Fc,if_pos h]
 exact ⟨by rw [Mo,e,if_neg h],e.symm⟩
theorem Ajt {l:List Tp} {ws:List Int} (h:¬Cr l ws≠0) {k:Nat} {t:Tp} (ht:l[k]? =some t) (hn:(!(Fa (Ke l k) t ws).isSome)=true): []=Mo l ws∧21=Fc l ws:=by
 have e:Fc l ws=21:=by
  rw [Fc,if_neg h,if_neg fun ha=> ?_]
  have:=ha k (List.getElem?_eq_some_iff.1 ht).1
  rw [Kt ht] at this
  rw [this] at hn
  cases hn
 exact ⟨by rw [Mo,e,if_neg (by decide)],e.symm⟩
theorem Ajs {l:List Tp} {ws:List Int} (h:¬Cr l ws≠0) (ha:J5 l ws):Nc l ws l.length=Mo l ws∧0=Fc l ws:=by
 have e:Fc l ws=0:=by rw [Fc,if_neg h,if_pos ha]
 exact ⟨by rw [Mo,e,if_pos rfl],e.symm⟩
theorem Ajq (l:List Tp) (ws:List Int):XC Tryz.prog 134 [.sl 4 (l.map Tp.c), .sl 1 (B4 ws)] (fun r=>r= .tup [.sl 1 (B4 (Mo l ws)),dI (Fc l ws)]):=by
 refine Ao Aau Tryz.func134 R R lb<|zr<|za R R<|za R R<|zn<|zs<|zr<|zm R R<|zm R R<|XL.call1 R R (Rt _ _) R<|zm R R<|zp (A6 R R R)<|zp (A6 R R R)<|za R R<|?_
 refine za R R<|znr<|zm R R<|zp (A9 R R R)<|zn<|?_
 refine zd R (fun c19=> ?_) (fun c19=> ?_)
 refine zr<|zm R R<|za R R<|za R R<|zn<|zt<|?_
 exact Bl R (RV.nil (sz:=1) R R) (RV.tmp R R) (r2 (rSl (Aos c19).1) (rI (Aos c19).2))
 refine zi<|zs<|?_
 have hT:=Iy c19
 have hbd:=hT.bd
 have hlen:=hT.len
 refine Af (by kernel_rfl)<|zm R R<|XL.len R R R Tryz.underlying23 fun hl22=>XL.step R (Oi 23 (m:=0) (z:=(.int .i64 0)) (zs:= [dI 0]) (sz:=1) (bytes:=8) R R R Tryz.underlying64 (by kernel_rfl) (by kernel_rfl) (by kernel_rfl) (by decide) (by decide) (by omega) (by unfold maxLen;omega) (by omega))<|zp (A4 R (by conv=>lhs;whnf))<|?_
 refine zn<|zs<|zr<|zm R R<|XL.len R R R Tryz.underlying23 fun hl25=>zm R R<|zn<|Ai<|?_
 refine Av (α:=Nat) (fun k=>k≤l.length∧∀j,j<k→(Q6 l j ws).isSome=true) (fun k=>mkF [(0, .d (.sl 4 (l.map Tp.c))),(1, .d (.sl 1 (B4 ws))),(8, .own 23),(25, .d (dI l.length)),(26, .d (dI k))]) (fun k=>mkH [(23, .row 3 1 ((Nc l ws k).map iv))]) (fun k=>l.length - k) (0) (⟨Nat.zero_le _,fun j hj=>absurd hj (Nat.not_lt_zero _)⟩) ?_ ?_ ?_
 exact fz ⟨sr,sr,sr,sr,sr,trivial⟩
 exact gz ⟨R,trivial⟩
 intro k hk0
 obtain ⟨hk,hall⟩:=hk0
 refine zr<|zp (Aq R R R)<|zn<|zs<|?_
 refine zd R (fun c27=> ?_) (fun c27=> ?_)
 have hk0a:k<l.length:=by omega
 obtain ⟨x0,hx0⟩:=Ap hk0a
 have hll:=Ag9 l ws k
 refine zi<|zs<|Ai<|zr<|zm R R<|za R R<|znr<|zm R R<|zm R R<|zm R R<|XL.call1 R R (Ams _ _ _ _ hx0 hT) R<|zm R R<|zp (A6 R R R)<|zp (A6 R R R)<|?_
 refine za R R<|za R R<|zn<|zs<|zr<|zm R R<|zp (Cu R R)<|zn<|?_
 refine Dc (by kernel_rfl) R (fun c37=> ?_) (fun c37=> ?_)
 refine zr<|za R R<|za R R<|zn<|zt<|?_
 exact Bl R (RV.nil (sz:=1) R R) (RV.tmp R R) (r2 (rSl (Ajt c19 hx0 c37).1) (rI (Ajt c19 hx0 c37).2))
 refine zi<|Af (by kernel_rfl)<|zp (A3 R (by conv=>lhs;whnf))<|?_
 refine zm R R<|XL.step R (B6 40 R Tryz.underlying64 Df Gt R R (by omega) (by omega))<|XL.step R (Bw R On (.own R) (Src.own R) (by unfold maxLen;simp;omega) (by simp;omega))<|zp (A4 R (by conv=>lhs;whnf))<|?_
 refine zn<|Af (by kernel_rfl)<|zp (Ak R R R (by omega) (by omega))<|zm R R<|zn<|?_
 exact Al (k+1) (⟨by omega,fun j hj=>by by_cases e:j=k;(· subst e;rw [Kt hx0];exact (by simpa using c37));(· exact hall j (by omega))⟩) (by omega) (fz ⟨sr,sr,sr,sr,sr,trivial⟩) (gz ⟨Kz rfl (Afk hx0),trivial⟩)
 have hk0b:k=l.length:=by omega
 have ha:J5 l ws:=fun j hj=>hall j (by omega)
 refine At<|zr<|zp (A3 R (by conv=>lhs;whnf))<|?_
 refine zp (A4 R (by conv=>lhs;whnf))<|?_
 refine za R R<|zn<|zt<|Cp (i:=23) R<|?_
 exact Bl R (RV.tmp R R) (RV.tmp R R) (r2 (rSl (by rw [hk0b];exact (Ajs c19 ha).1)) (rI (Ajs c19 ha).2))
def Hu (l:List Tp) (n:Int):Int:=if D2 l 128≠0 then 0 else (hits l n:Int)
theorem S0 {l:List Tp} {k:Nat} {t:Tp} {n:Int} (h:l[k]? =some t) (ht:t.has n):hits (l.take (k+1)) n=hits (l.take k) n+1:=by rw [Bp h,H1,if_pos ht]
theorem U2 {l:List Tp} {k:Nat} {t:Tp} {n:Int} (h:l[k]? =some t) (ht:¬t.has n):hits (l.take (k+1)) n=hits (l.take k) n:=by rw [Bp h,H1,if_neg ht];rfl
theorem Zc (l:List Tp) (n:Int) (h0:0≤n) (h1:n≤128):XC Tryz.prog 94 [.sl 4 (l.map Tp.c), .v (.int .i64 n)] (fun r=>r=dI (Hu l n)):=by
 refine Ao Aci Tryz.func94 R R lb<|zr<|za R R<|zn<|zs<|zr<|zm R R<|XL.call1 R R (Vi _ _) R<|zp (A9 R R R)<|zn<|?_
 refine zd R (fun c10=> ?_) (fun c10=> ?_)
 exact zr<|za R R<|zn<|zt<|z1 R R (rI (by rw [Hu,if_pos c10]))
 refine zi<|zs<|?_
 have hT:=Q7 c10
 refine Af (by kernel_rfl)<|za R R<|zn<|zs<|zr<|zm R R<|XL.len R R R Tryz.underlying23 fun hl12=>zm R R<|zn<|Ai<|?_
 refine Av (α:=Nat) (fun k=>k≤l.length) (fun k=>mkF [(1, .d (dI n)),(4, .d (dI 0)),(5, .d (dI (hits (l.take k) n:Int))),(11, .d (.sl 4 (l.map Tp.c))),(12, .d (dI l.length)),(13, .d (dI k))]) (fun k=>mkH []) (fun k=>l.length - k) (0) (Nat.zero_le _) ?_ ?_ ?_
 exact fz ⟨sr,sr,sr,sr,sr,sr,trivial⟩
 exact HSub.nil
 intro k hk0
 refine zr<|zp (Aq R R R)<|zn<|zs<|?_
 refine zd R (fun c14=> ?_) (fun c14=> ?_)
 have hk0a:k<l.length:=by omega
 obtain ⟨x0,hx0⟩:=Ap hk0a
 have hok:=hT.ok x0 (List.mem_of_getElem? hx0)
 have hle:=Nat.le_trans (Nt l k n) (hT.hits n)
 refine zi<|zs<|Ai<|zr<|zp (Am R R R Ex hx0)<|zp (Ae (s':= .d (.agg (Tp.c x0))) (Ar R R B8 lb) (by kernel_rfl))<|XL.step R (A0 7 (l:= [.d (dI 0), .d (dI 0), .d (dI 0), .d (dI 0)]) R Dx (by kernel_rfl))<|XL.step R (Ag (l':= [.d (dI x0.first), .d (dI x0.count), .d (dI x0.actual), .d (dI x0.normal)]) R R R R Fs R lb (by kernel_rfl))<|znr<|?_
 refine zp (Ae (s':= .d (.agg (Tp.c x0))) (Ac (Ad R R B8 R lb)) (by kernel_rfl))<|zm R R<|XL.call1 R R (R1 _ _ (by assumption) (by omega) (by omega)) R<|zn<|?_
 refine zd R (fun c19=> ?_) (fun c19=> ?_)
 refine Af (by kernel_rfl)<|zm R R<|zp (Ak R R R (by omega) (by omega))<|za R R<|zn<|Af (by kernel_rfl)<|zp (Ak R R R (by omega) (by omega))<|zm R R<|zn<|?_
 exact Al (k+1) (by omega) (by omega) (fz ⟨sr,sr, .same (sI (by rw [S0 hx0 c19];rfl)),sr,sr,sr,trivial⟩) (HSub.nil)
 refine zi<|Af (by kernel_rfl)<|zp (Ak R R R (by omega) (by omega))<|zm R R<|zn<|?_
 exact Al (k+1) (by omega) (by omega) (fz ⟨sr,sr, .same (sI (by rw [U2 hx0 c19])),sr,sr,sr,trivial⟩) (HSub.nil)
 have hk0b:k=l.length:=by omega
 have ht:l.take k=l:=by rw [hk0b,List.take_length]
 exact At<|zr<|zm R R<|za R R<|zn<|zt<|z1 R R (rI (by rw [Hu,if_neg c10,ht]))
end Go.Proofs.YtcihalbakenleaaGreat
namespace Go.Proofs.YtcihalbakenleaaGreat
open Go.RowKit
def Uj (ops:Array Oper) (j i:Nat):Bool:=match ops[j]? with
 |some o=>o.after.toList.any fun e=>Region.binds .any e && Nat.beq e.on i
 |none=>false
def Agx (ops:Array Oper):Bool:=(List.range ops.size).all fun j=>match ops[j]? with
 |some o=>o.after.toList.all fun e=> !Region.binds .any e||Nat.blt e.on j
 |none=>true
def Se (ops:Array Oper) (p:Nat):Bool:=
 Agx ops && ((List.range p).all fun k=>(List.range (p+1)).any fun k'=>Nat.blt k k' && Uj ops k' k) && ((List.range ops.size).all fun j=> !Nat.blt p j||Uj ops j (j - 1))
theorem Pp {ops:Array Oper} {j i:Nat} (h:Uj ops j i=true):∃o e,ops[j]? =some o∧e∈o.after∧Region.binds .any e=true∧e.on=i:=by
 unfold Uj at h
 cases ho:ops[j]? with
 |none=>rw [ho] at h;cases h
 |some o=>
  rw [ho] at h
  simp only [List.any_eq_true,Bool.and_eq_true] at h
  obtain ⟨e,he,hb,h2⟩:=h
  exact ⟨o,e,rfl,by simpa using he,hb,Nat.eq_of_beq_eq_true h2⟩
theorem Uk {ops:Array Oper} (h:Agx ops=true) {j:Nat} {o:Oper} (ho:ops[j]? =some o) {e:Edge} (he:e∈o.after) (hb:Region.binds .any e=true):e.on<j:=by
 unfold Agx at h
 have hj:j<ops.size:=(Array.getElem?_eq_some_iff.1 ho).1
 have h1:=List.all_eq_true.1 h j (List.mem_range.2 hj)
 rw [ho] at h1
 have h2:=List.all_eq_true.1 h1 e (by simpa using he)
 rw [hb] at h2
 exact Gj (by simpa using h2)
theorem Pv {P:Program} {ops:Array Oper} {Q:Exit→Act→World→Prop} {id:Nat} {a:Act} {w:World} {I:Array Bool→Act→World→Prop} (p:Nat) (suf:List Oper) (hm:P.follows .mixedOrders=true)
  (hops:∀j,suf[j]? =ops[p+j]?) (hsz:ops.size=p+suf.length) (hne:0<suf.length) (hS:Se ops p=true) (h0:I (Array.replicate ops.size false) a w.drew)
  (hinv:∀listed a w,I listed a w→listed.size=ops.size∧(∀j o e,ops[j]? =some o→listed.getD j false=true→e∈o.after→Region.binds .any e=true→listed.getD e.on false=true)∧∀k,p≤k→listed.getD k false=false)
  (hstep:∀listed a w,I listed a w→∀i∈Region.ready .any ops listed,i<p→wpOp P ops Q i (fun a' w'=>I (listed.setIfInBounds i true) a' w') a w)
  (hdone:∀listed a w,I listed a w→(∀k,k<p→listed.getD k false=true)→wpList P ops Q suf a w):(Code.region id ops true).wp P Q a w:=by
 unfold Se at hS
 rw [Bool.and_eq_true,Bool.and_eq_true] at hS
 obtain ⟨⟨hback,hpre⟩,hchain⟩:=hS
 have hch:∀j,p<j→j<ops.size→Uj ops j (j - 1)=true:=by
  intro j h1 h2
  have h3:=List.all_eq_true.1 hchain j (List.mem_range.2 h2)
  have h4:Nat.blt p j=true:=by rw [Nat.blt_eq];exact h1
  rw [h4] at h3
  simpa using h3
 have hall:∀listed a w,I listed a w→p∈Region.ready .any ops listed→∀k,k<p→listed.getD k false=true:=by
  intro listed a w hI hp k hk
  obtain ⟨_,hdown,_⟩:=hinv _ _ _ hI
  obtain ⟨_,_,o,ho,hdeps⟩:=Gq hp
  have key:∀d k,k<p→p - k≤d→listed.getD k false=true:=by
   intro d
   induction d with
   |zero=>intro k h1 h2;omega
   |succ d ih=>
    intro k h1 h2
    have h3:=List.all_eq_true.1 hpre k (List.mem_range.2 h1)
    simp only [List.any_eq_true,Bool.and_eq_true,List.mem_range] at h3
    obtain ⟨k',h4,h5,h6⟩:=h3
    have h5:=Gj h5
    obtain ⟨o',e,g1,g2,g3,g4⟩:=Pp h6
    by_cases e':k'=p
    ·subst e'
     rw [ho] at g1;cases g1
     rw [←g4];exact hdeps e g2 g3
    ·rw [←g4]
     exact hdown k' o' e g1 (ih k' (by omega) (by omega)) g2 g3
  exact key (p - k) k hk (Nat.le_refl _)
 let J:Array Bool→Act→World→Prop:=fun listed a w=>I listed a w∨∃m,m≤suf.length∧listed.size=ops.size∧(∀k,k<ops.size→(listed.getD k false=true↔k<p+m))∧wpList P ops Q (suf.drop m) a w
 have hone:∀(listed:Array Bool) (a:Act) (w:World) (m:Nat),m<suf.length→listed.size=ops.size→(∀k,k<ops.size→(listed.getD k false=true↔k<p+m))→wpList P ops Q (suf.drop m) a w→
   wpOp P ops Q (p+m) (fun a' w'=>J (listed.setIfInBounds (p+m) true) a' w') a w:=by
  intro listed a w m hm' hl hk hw
  have ho:suf[m]? =some suf[m]:=List.getElem?_eq_getElem hm'
  have hd:suf.drop m=suf[m]::suf.drop (m+1):=List.drop_eq_getElem_cons hm'
  rw [hd] at hw
  unfold wpOp
  rw [←hops m,ho]
  simp only
  unfold wpList at hw
  have hJ:∀a' w',wpList P ops Q (suf.drop (m+1)) a' w'→J (listed.setIfInBounds (p+m) true) a' w':=by
   intro a' w' h
   refine .inr ⟨m+1,hm',by simpa using hl,fun k hk'=> ?_,h⟩
   by_cases e:k=p+m
   ·subst e
    simp [Array.getD_eq_getD_getElem?,show p+m<listed.size by omega]
   ·rw [show (listed.setIfInBounds (p+m) true).getD k false=listed.getD k false from by simp [Array.getD_eq_getD_getElem?,Array.getElem?_setIfInBounds_ne (fun h=>e h.symm)]]
    rw [hk k hk']
    omega
  split at hw
  ·rename_i hwant
   rw [if_pos hwant]
   rcases hw with h|h
   ·exact .inl (Oper.wp_mono hJ h)
   ·exact .inr h
  ·rename_i hwant
   rw [if_neg hwant]
   exact hJ _ _ hw
 refine Pw (I:=J) hm (.inl h0) ?_ ?_
 ·rintro listed a w (hI|⟨m,hm',hl,hk,hw⟩) i hi
  ·obtain ⟨hl,hdown,hun⟩:=hinv _ _ _ hI
   obtain ⟨h1,h2,o,ho,hdeps⟩:=Gq hi
   by_cases hip:i<p
   ·exact wpOp_mono (fun _ _ h=> .inl h) (hstep _ _ _ hI i hi hip)
   ·by_cases e:i=p
    ·subst e
     have ha:=hall _ _ _ hI hi
     have := hone listed a w 0 hne hl (fun k hk => by
      by_cases hkp:k<i
      ·simp [ha k hkp,hkp]
      ·simp [hun k (by omega), hkp]) (by rw [List.drop_zero]; exact hdone _ _ _ hI ha)
     rwa [Nat.add_zero] at this
    ·exfalso
     obtain ⟨o',e',g1,g2,g3,g4⟩:=Pp (hch i (by omega) h1)
     rw [ho] at g1;cases g1
     have:=hdeps e' g2 g3
     rw [g4,hun (i - 1) (by omega)] at this
     cases this
  ·obtain ⟨h1,h2,o,ho,hdeps⟩:=Gq hi
   have h2':listed.getD i false=false:=by rw [←Ja true (by omega)];exact h2
   have hge:¬i<p+m:=fun h=>by have:=(hk i h1).2 h;rw [h2'] at this;cases this
   have hi':i=p+m:=by
    by_cases e:i=p+m
    ·exact e
    ·exfalso
     obtain ⟨o',e',g1,g2,g3,g4⟩:=Pp (hch i (by omega) h1)
     rw [ho] at g1;cases g1
     have:=hdeps e' g2 g3
     rw [g4] at this
     have:=(hk (i - 1) (by omega)).1 this
     omega
   subst hi'
   exact hone listed a w m (by omega) hl hk hw
 ·rintro listed a w (hI|⟨m,hm',hl,hk,hw⟩) hr
  ·exfalso
   obtain ⟨hl,hdown,hun⟩:=hinv _ _ _ hI
   have key:∀k,k≤p→listed.getD k false=true:=by
    intro k
    induction k using Nat.strongRecOn with
    |_ k ih=>
     intro hkp
     cases hlk:listed.getD k false with
     |true=>rfl
     |false=>
      exfalso
      have hks:k<ops.size:=by omega
      have ho:ops[k]? =some ops[k]:=Array.getElem?_eq_getElem hks
      have : k ∈ Region.ready .any ops listed := mem_ready.2 ⟨by rw [Ja true (by omega)]; exact hlk, ops[k], ho, fun e he hb => by
       have hlt:=Uk hback ho he hb
       exact ih e.on hlt (by omega)⟩
      rw [hr] at this;cases this
   have:=key p (Nat.le_refl _)
   rw [hun p (Nat.le_refl _)] at this
   cases this
  ·by_cases e:m=suf.length
   ·subst e
    rw [List.drop_length] at hw
    exact hw
   ·exfalso
    have hks:p+m<ops.size:=by omega
    have ho:ops[p+m]? =some ops[p+m]:=Array.getElem?_eq_getElem hks
    have hun:listed.getD (p+m) false=false:=by
     cases h:listed.getD (p+m) false with
     |false=>rfl
     |true=>have:=(hk _ hks).1 h;omega
    have : p + m ∈ Region.ready .any ops listed := mem_ready.2 ⟨by rw [Ja true (by omega)]; exact hun, ops[p + m], ho, fun e he hb => by
     have hlt:=Uk hback ho he hb
     exact (hk e.on (by omega)).2 hlt⟩
    rw [hr] at this;cases this
theorem Ajo {P:Program} {n id:Nat} {pre suf:List Oper} {ops:Array Oper} {K:Do} {f f':Fr} {h h':Xh} {L:List (List Nat × S)} (sites:List Nat) (hopsE:ops=(pre++suf).toArray) (hne:0<suf.length) (hm:P.follows .mixedOrders=true) (hin:pre.all (inN n)=true) (hin2:suf.all (inN n)=true)
  (hreg:Lt ops pre=true) (hS:Se ops pre.length=true)
  (hc:Ch P n ops pre (E1 f sites) (Fg h sites) L f' h') (hids:L.flatMap (·.1)=sites) (hnd:sites.Nodup) (hk:XL P n ops suf K f' h'):XW P n (.region id ops true) K f h:=by
 have hops:∀j,j<pre.length→ops[j]? =pre[j]? :=fun j hj=>by rw [hopsE];simp [List.getElem?_append_left hj]
 have hops2:∀j,suf[j]? =ops[pre.length+j]? :=fun j=>by rw [hopsE,List.getElem?_toArray,List.getElem?_append_right (by omega),Nat.add_sub_cancel_left]
 have hsize:ops.size=pre.length+suf.length:=by rw [hopsE];simp
 intro E H β a w hs hf
 obtain ⟨hs1,hf1⟩:=M3 sites β f h hs hf
 obtain ⟨hok,hfin⟩:=hc.ok
 obtain ⟨hle,hnew⟩:=hc.heap
 have hlen:=hc.len
 generalize hf0:E1 f sites=f0 at*
 have huniq:∀(k k':Nat) (ids ids':List Nat) (s s':S) (i:Nat),L[k]? =some (ids,s)→L[k']? =some (ids',s')→i∈ids→i∈ids'→k=k':=by
  rw [←hids] at hnd
  clear hids hnew hc hok hfin hlen
  induction L with
  |nil=>intro k k' ids ids' s s' i h1;simp at h1
  |cons q L ih=>
   rw [List.flatMap_cons,List.nodup_append] at hnd
   intro k k' ids ids' s s' i h1 h2 h3 h4
   cases k with
   |zero=>
    cases k' with
    |zero=>rfl
    |succ k'=>
     simp at h1 h2
     subst h1
     exact absurd rfl (hnd.2.2 i h3 i (List.mem_flatMap.2 ⟨_,List.mem_of_getElem? h2,h4⟩))
   |succ k=>
    cases k' with
    |zero=>
     simp at h1 h2
     subst h2
     exact absurd rfl (hnd.2.2 i h4 i (List.mem_flatMap.2 ⟨_,List.mem_of_getElem? h1,h3⟩))
    |succ k'=>exact congrArg (· +1) (ih hnd.2.1 k k' ids ids' s s' i (by simpa using h1) (by simpa using h2) h3 h4)
 have hs2:Sim E H (Gb β sites) h' w:=by
  have emp:∀i x L0,h' i=some x→Gb β sites i=some L0→Fg h sites i=some x:=fun i x L0 e1 e2=>by
   rcases hnew i x e1 with e|e
   ·exact e
   ·rw [hids] at e
    rw [Gn sites β i e.1] at e2;cases e2
  exact ⟨hs1.below, hs1.ext, hs1.new, hs1.imm, fun i x L0 e1 e2 => hs1.obj i x L0 (emp i x L0 e1 e2) e2, fun i x L0 e1 e2 => hs1.sep i x L0 (emp i x L0 e1 e2) e2,
   fun i j x x' L1 L2 b hij e1 e1' e2 e2'=>hs1.inj i j x x' L1 L2 b hij (emp i x L1 e1 e2) (emp j x' L2 e1' e2') e2 e2',
   fun i x e1 hg=>by
    rcases hnew i x e1 with e|e
    ·exact hs1.dom i x e hg
    ·rw [e.2] at hg; cases hg⟩
 refine Pv (I := fun listed a w => (listed.size = ops.size ∧ (∀ j o e, ops[j]? = some o → listed.getD j false = true → e ∈ o.after → Region.binds .any e = true → listed.getD e.on false = true) ∧ ∀ k, pre.length ≤ k → listed.getD k false = false) ∧
   ∃ H β, Sim E H β h' w ∧ FV n H β a (Bs f0 pre L (fun j => listed.getD j false) pre.length) ∧ ∀ (k : Nat) (ids : List Nat) (s : S), L[k]? = some (ids, s) → listed.getD k false = false → ∀ i ∈ ids, β i = none) pre.length suf hm hops2 hsize hne hS ?_ (fun _ _ _ h => h.1) ?_ ?_
 ·have hrep:∀j,(Array.replicate ops.size false).getD j false=false:=fun j=>by rw [Array.getD_eq_getD_getElem?,Array.getElem?_replicate];split<;>rfl
  refine ⟨⟨by simp,fun j o e _ hj=> ?_,fun k _=>hrep k⟩,H,Gb β sites,hs2.drew, ?_,fun k ids s hk _ i hi=>Gn sites β i (by rw [←hids];exact List.mem_flatMap.2 ⟨_,List.mem_of_getElem? hk,hi⟩)⟩
  ·have:(Array.replicate ops.size false).getD j false=false:=by
    rw [Array.getD_eq_getD_getElem?,Array.getElem?_replicate];split<;>rfl
   rw [this] at hj;cases hj
  ·have e0:∀k,Bs f0 pre L (fun j=>(Array.replicate ops.size false).getD j false) k=f0:=by
    intro k
    induction k with
    |zero=>rfl
    |succ k ih=>
     have hz:(Array.replicate ops.size false).getD k false=false:=by
      rw [Array.getD_eq_getD_getElem?,Array.getElem?_replicate];split<;>rfl
     unfold Bs
     cases pre[k]? with
     |none=>exact ih
     |some o=>
      cases L[k]? with
      |none=>exact ih
      |some q=>simp only [hz,cond_false];exact ih
   rw [e0]
   exact hf1
 ·rintro listed a w ⟨⟨hsz,hdown,hunp⟩,H,β,hsim,hfv,hun⟩ i hi hip
  obtain ⟨hil,hunl,o,ho,hdeps⟩:=Gq hi
  have hil':i<pre.length:=hip
  have hol:pre[i]? =some o:=by rw [←hops i hip];exact ho
  obtain ⟨⟨ids,s⟩,hLi⟩:∃q,L[i]? =some q:=⟨_,List.getElem?_eq_getElem (by omega)⟩
  have hunl':listed.getD i false=false:=by rw [←Ja true (by omega)];exact hunl
  have hdown':∀j o e,ops[j]? =some o→(fun j=>listed.getD j false) j=true→e∈o.after→Region.binds .any e=true→(fun j=>listed.getD j false) e.on=true:=fun j o e h1 h2 h3 h4=>hdown j o e (by simpa using h1) h2 h3 h4
  have hwl:∀j,H6 ops 3 i j=true→listed.getD j false=true:=by
   intro j hw
   unfold H6 at hw
   rw [ho] at hw
   simp only [List.any_eq_true,Bool.and_eq_true,Bool.or_eq_true] at hw
   obtain ⟨e,he,hb,h2⟩:=hw
   have hl:=hdeps e (by simpa using he) hb
   rcases h2 with h2|h2
   ·rw [←Nat.eq_of_beq_eq_true h2];exact hl
   ·exact E9 hdown' 2 e.on j h2 hl
  have hlo:∀t,t∈Cv ops o→∀j o',j<i→pre[j]? =some o'→o'.dst=some t→listed.getD j false=true:=by
   intro t ht j o' hj hj' hd
   exact hwl j (J8 hreg hj hj' hol (by unfold N4;rw [hd];simp [Jz ht]))
  have hhi:∀t,t∈Cv ops o→∀j o',i<j→pre[j]? =some o'→o'.dst=some t→listed.getD j false=false:=by
   intro t ht j o' hj hj' hd
   cases hlj:listed.getD j false with
   |false=>rfl
   |true=>
    have hw:=J8 hreg hj hol hj' (by unfold N4;rw [hd];simp [Jz ht])
    have:=E9 hdown' 3 j i hw hlj
    rw [hunl'] at this;cases this
  have hcur:∀t,t∈Cv ops o→Bs f0 pre L (fun j=>listed.getD j false) pre.length t=Bs f0 pre L Fh i t:=by
   intro t ht
   have h1:∀j o',i≤j→pre[j]? =some o'→o'.dst=some t→(fun j=>listed.getD j false) j=false:=by
    intro j o' hj hj' hd
    by_cases e:j=i
    ·subst e;exact hunl'
    ·exact hhi t ht j o' (by omega) hj' hd
   rw [Jc h1 pre.length (by omega),N3 (hlo t ht) i (Nat.le_refl _)]
  have hin':inN n o=true:=List.all_eq_true.1 hin o (List.mem_of_getElem? hol)
  have hoin:=hin'
  unfold inN at hoin
  rw [Bool.and_eq_true] at hoin
  have hop:∀x∈o.op.operands,VS H β (a.eval x) (ev (Bs f0 pre L Fh i) x):=by
   intro x hx
   have h1:=hfv.operands hin' x hx
   cases x with
   |tmp t=>
    have ht:t∈Cv ops o:=by
     unfold Cv Oper.looksAt
     simp only [List.mem_append,List.mem_filterMap]
     exact .inr (.inl ⟨.tmp t,by simpa using hx,rfl⟩)
    have:=hcur t ht
    simp only [ev] at h1 ⊢
    rw [←this]
    exact h1
   |_=>exact h1
  have hguard:∀b,Cc ops (Bs f0 pre L Fh i) n o.guard=some b→Region.wanted o (yielded ops a.tmps)=b:=by
   intro b hb
   refine Jf hfv ?_
   rw [←hb]
   unfold Cc
   cases hg:o.guard with
   |none=>rfl
   |some g=>
    obtain ⟨j,want⟩:=g
    simp only
    cases ht:(ops[j]?).bind (·.dst) with
    |none=>rfl
    |some t=>
     simp only
     have htn:t∈Cv ops o:=by
      unfold Cv Oper.looksAt
      rw [hg]
      simp only [List.mem_append]
      exact .inr (.inr (by rw [ht];simp))
     rw [hcur t htn]
  have hlisted':∀j,(listed.setIfInBounds i true).getD j false=if j=i then true else listed.getD j false:=by
   intro j
   by_cases e:j=i
   ·subst e
    simp [Array.getD_eq_getD_getElem?,show j<listed.size by omega]
   ·rw [if_neg e]
    simp [Array.getD_eq_getD_getElem?,Array.getElem?_setIfInBounds_ne (fun h=>e h.symm)]
  have hdown2:∀j o' e,ops[j]? =some o'→(listed.setIfInBounds i true).getD j false=true→e∈o'.after→Region.binds .any e=true→(listed.setIfInBounds i true).getD e.on false=true:=by
   intro j o' e hj hl he hb
   rw [hlisted'] at hl ⊢
   split
   ·rfl
   ·by_cases ej:j=i
    ·subst ej
     rw [ho] at hj;cases hj
     exact hdeps e he hb
    ·rw [if_neg ej] at hl
     exact hdown j o' e hj hl he hb
  have hslot:∀(H':Hp) (β':Bt) (u:Value),FV n H' β' a (Bs f0 pre L (fun j=>listed.getD j false) pre.length)→VS H' β' u s→FV n H' β' (a.put o.dst u) (Bs f0 pre L (fun j=>(listed.setIfInBounds i true).getD j false) pre.length):=by
   intro H' β' u hfv' hu
   have hp:=hfv'.put hu o.dst hoin.2
   refine ⟨hp.defers,hp.size,fun t ht=> ?_⟩
   have h1:=hp.slot t ht
   have hsame:∀j,j≠i→(fun j=>(listed.setIfInBounds i true).getD j false) j=(fun j=>listed.getD j false) j:=fun j hj=>by simp only;rw [hlisted',if_neg hj]
   by_cases hd:o.dst=some t
   ·have ht':t∈Cv ops o:=by unfold Cv;simp [hd]
    have e1:Bs f0 pre L (fun j=>(listed.setIfInBounds i true).getD j false) pre.length t=Bs f0 pre L (fun j=>(listed.setIfInBounds i true).getD j false) (i+1) t:=by
     refine Jc (fun j o' hj hj' hd'=> ?_) pre.length (by omega)
     show (listed.setIfInBounds i true).getD j false=false
     rw [hlisted',if_neg (by omega)]
     exact hhi t ht' j o' (by omega) hj' hd'
    have e2:Bs f0 pre L (fun j=>(listed.setIfInBounds i true).getD j false) (i+1) t=s:=by
     unfold Bs
     rw [hol,hLi]
     have hb:(listed.setIfInBounds i true).getD i false=true:=by rw [hlisted',if_pos rfl]
     simp only [hb,cond_true,Bv,hd,Db,B1]
    have e3:Bv (Bs f0 pre L (fun j=>listed.getD j false) pre.length) o.dst s t=s:=by rw [hd];simp only [Bv,Db,B1,cond_true]
    rw [e1,e2]
    rw [e3] at h1
    exact h1
   ·have e1:=Mb (f:=f0) (L:=L) (lst:=fun j=>listed.getD j false) (t:=t) hsame (fun o' h=>by rw [hol] at h;cases h;exact hd) pre.length
    have e3:Bv (Bs f0 pre L (fun j=>listed.getD j false) pre.length) o.dst s t=Bs f0 pre L (fun j=>listed.getD j false) pre.length t:=by
     cases hdd:o.dst with
     |none=>rfl
     |some t'=>
      have:t'≠t:=fun e=>hd (by rw [hdd,e])
      simp only [Bv,Db,B9 this,cond_false]
    rw [e1]
    rw [e3] at h1
    exact h1
  have hun2:∀(β':Bt),(∀j,j∉ids→β' j=β j)→∀(k:Nat) (ids':List Nat) (s':S),L[k]? =some (ids',s')→(listed.setIfInBounds i true).getD k false=false→∀j∈ids',β' j=none:=by
   intro β' hβ' k ids' s' hk hl j hj
   rw [hlisted'] at hl
   by_cases e:k=i
   ·rw [if_pos e] at hl;cases hl
   ·rw [if_neg e] at hl
    rw [hβ' j (fun hc=>e (huniq k i ids' ids s' s j hk hLi hj hc))]
    exact hun k ids' s' hk hl j hj
  have hsz':(listed.setIfInBounds i true).size=ops.size:=by simpa using hsz
  have hunp2:∀k,pre.length≤k→(listed.setIfInBounds i true).getD k false=false:=fun k hk=>by rw [hlisted',if_neg (by omega)];exact hunp k hk
  unfold wpOp
  rw [ho]
  simp only
  rcases hok i o ids s hol hLi with ⟨hw,hcalm⟩|⟨hw,rfl,rfl⟩
  ·rw [if_pos (hguard _ hw)]
   refine .inl (Hm (hcalm E H β a w hsim (hun i ids s hLi hunl') hop) ?_)
   rintro a' w' ⟨H',β',u,rfl,k1,k2,k3,k4,k5⟩
   exact ⟨⟨hsz',hdown2,hunp2⟩,H',β',k1,hslot H' β' u (hfv.mono k2 k3) k5,hun2 β' k4⟩
  ·rw [if_neg (by rw [hguard _ hw];simp)]
   exact ⟨⟨hsz',hdown2,hunp2⟩,H,β,hsim,hslot H β undef hfv (.d (.v _)),hun2 β fun _ _=>rfl⟩
 ·rintro listed a w ⟨⟨hsz,hdown,hunp⟩,H,β,hsim,hfv,hun⟩ hall
  refine hk hin2 E H β a w hsim ?_
  have e:∀k,k≤pre.length→Bs f0 pre L (fun j=>listed.getD j false) k=Bs f0 pre L Fh k:=by
   intro k
   induction k with
   |zero=>intro _;rfl
   |succ k ih=>
    intro hk'
    unfold Bs
    rw [ih (by omega)]
    cases pre[k]? with
    |none=>rfl
    |some o=>
     cases L[k]? with
     |none=>rfl
     |some q=>simp only [hall k (by omega),Fh]
  rw [e pre.length (Nat.le_refl _),hfin] at hfv
  exact hfv
theorem Amm {P:Program} {n id:Nat} {pre suf:List Oper} {ops:Array Oper} {K:Do} {f:Fr} {h:Xh} (sites:List Nat) (hopsE:ops=(pre++suf).toArray) (hne:0<suf.length) (hm:P.follows .mixedOrders=true) (hin:pre.all (inN n)=true) (hin2:suf.all (inN n)=true)
  (hreg:Lt ops pre=true) (hS:Se ops pre.length=true) (hnd:sites.Nodup)
  (hc:ChK P n ops pre (E1 f sites) (Fg h sites) [] (fun L f' h'=>L.flatMap (·.1)=sites∧XL P n ops suf K f' h')):XW P n (.region id ops true) K f h:=by
 obtain ⟨L,f',h',k1,k2,k3⟩:=hc
 exact Ajo sites hopsE hne hm hin hin2 hreg hS k1 k2 hnd k3
theorem C3 {P:Program} {n id:Nat} {l:List Oper} {K:Do} {f:Fr} {h:Xh} (p:Nat) (sites:List Nat) (hm:P.follows .mixedOrders=true) (hin:l.all (inN n)=true) (hreg:Lt l.toArray (l.take p)=true) (hS:(Nat.blt p l.length && Se l.toArray p)=true) (hnd:sites.Nodup)
  (hc:ChK P n l.toArray (l.take p) (E1 f sites) (Fg h sites) [] (fun L f' h'=>L.flatMap (·.1)=sites∧XL P n l.toArray (l.drop p) K f' h')):XW P n (.region id l.toArray true) K f h:=by
 rw [Bool.and_eq_true] at hS
 have hp:=Gj hS.1
 rw [←List.take_append_drop p l,List.all_append,Bool.and_eq_true] at hin
 exact Amm sites (by rw [List.take_append_drop]) (by rw [List.length_drop];omega) hm hin.1 hin.2 hreg (by rw [List.length_take,Nat.min_eq_left (by omega)];exact hS.2) hnd hc
theorem Ky {e:TypeId} {sz k:Nat} {α:Type} {g:α→List D} {l l':List α} {a:α} {ds:List D} (hd:ds=g a) (hl:l'=l.set k a):some (XO.row e sz ((l.map g).set k ds))=some (XO.row e sz (l'.map g)):=by rw [hl,hd,List.map_set]
end Go.Proofs.YtcihalbakenleaaGreat
namespace Go.Proofs.YtcihalbakenleaaGreat
open Go.RowKit
def tot (l:List Int):Int:=l.foldl (· + ·) 0
theorem H7 (l:List Int) (x:Int):tot (l++ [x])=tot l+x:=by unfold tot;rw [List.foldl_append];rfl
theorem Sc {l:List Int} {k:Nat} {x:Int} (h:l[k]? =some x):tot (l.take (k+1))=tot (l.take k)+x:=by rw [Bp h,H7]
structure Nums (l:List Int):Prop where
 len:l.length≤128
 bd:∀x∈l,0≤x∧x≤253671505920
theorem Amu {l:List Int}:(∀x∈l,0≤x∧x≤253671505920)→0≤tot l∧tot l≤(l.length:Int)*253671505920:=by
 refine Kw (p:=fun l=>(∀x∈l,0≤x∧x≤253671505920)→0≤tot l∧tot l≤(l.length:Int)*253671505920) (fun _=>by simp [tot]) (fun l x ih h=> ?_) l
 have h1:=ih fun y hy=>h y (List.mem_append_left _ hy)
 have h2:=h x (List.mem_append_right _ (List.mem_singleton.2 rfl))
 rw [H7,List.length_append,List.length_singleton,Int.natCast_add,Int.add_mul]
 omega
theorem Nums.tot {l:List Int} (h:Nums l):0≤Go.Proofs.YtcihalbakenleaaGreat.tot l∧Go.Proofs.YtcihalbakenleaaGreat.tot l≤32469952757760:=by
 have:=Amu h.bd
 have:=h.len
 omega
theorem Nums.take {l:List Int} (h:Nums l) (k:Nat):Nums (l.take k):=⟨Nat.le_trans (List.length_take_le' _ _) h.len,fun x hx=>h.bd x (List.mem_of_mem_take hx)⟩
def Evs (l:List Ev):Prop:=∀e∈l,e.art≤9223372036854775807
def wrS (l:List Ev):List Int:=l.map Ev.len
theorem Sb (l:List Int) (h:Nums l):XC Tryz.prog 61 [.sl 1 (B4 l)] (fun r=>r=dI (tot l)):=by
 refine Ao Ac9 Tryz.func61 R R lb<|zr<|za R R<|znr<|za R R<|zn<|zs<|zr<|zm R R<|XL.len R R R Tryz.underlying64 fun hl7=>zm R R<|zn<|Ai<|?_
 refine Av (α:=Nat) (fun k=>k≤l.length) (fun k=>mkF [(2, .d (dI 0)),(3, .d (dI (tot (l.take k)))),(6, .d (.sl 1 (B4 l))),(7, .d (dI l.length)),(8, .d (dI k))]) (fun k=>mkH []) (fun k=>l.length - k) (0) (Nat.zero_le _) ?_ ?_ ?_
 exact fz ⟨sr,sr,sr,sr,sr,trivial⟩
 exact HSub.nil
 intro k hk0
 refine zr<|zp (Aq R R R)<|zn<|zs<|?_
 refine zd R (fun c9=> ?_) (fun c9=> ?_)
 have hk0a:k<l.length:=by omega
 obtain ⟨x0,hx0⟩:=Ap hk0a
 have h1:=(h.take k).tot
 have h2:=h.bd x0 (List.mem_of_getElem? hx0)
 refine zi<|zs<|Ai<|zr<|zp (Am R R R C9 hx0)<|zp (Aw R R Ah)<|za R R<|zng<|zm R R<|zm R R<|zp (Ak R R R (by omega) (by omega))<|za R R<|zn<|Af (by kernel_rfl)<|?_
 refine zp (Ak R R R (by omega) (by omega))<|zm R R<|zn<|?_
 exact Al (k+1) (by omega) (by omega) (fz ⟨sr, .same (sI (by rw [Sc hx0])),sr,sr,sr,trivial⟩) (HSub.nil)
 have hk0b:k=l.length:=by omega
 have ht:l.take k=l:=by rw [hk0b,List.take_length]
 exact At<|zr<|zm R R<|za R R<|zn<|zt<|z1 R R (rI (by rw [ht]))
def Kj (l:List Int) (k:Nat):List Int:=(List.range l.length).map fun j=>if j<k then tot (l.take j) else 0
def Bm (l:List Int):List Int:=(List.range l.length).map fun j=>tot (l.take j)
theorem Yl (l:List Int) (k:Nat):(Kj l k).length=l.length:=by rw [Kj,List.length_map,List.length_range]
theorem Akn (l:List Int):List.replicate l.length (0:Int)=Kj l 1:=by
 rw [Kj]
 refine List.ext_getElem? fun j=> ?_
 rw [List.getElem?_replicate,List.getElem?_map]
 by_cases h:j<l.length
 ·rw [if_pos h,List.getElem?_range h,Option.map_some]
  congr 1
  split
  ·have:j=0:=by omega
   subst this;rfl
  ·rfl
 ·rw [if_neg h,List.getElem?_eq_none (by rw [List.length_range];omega)];rfl
theorem Ym {l:List Int} {j k:Nat} (h:j<k) (hj:j<l.length):(Kj l k)[j]? =some (tot (l.take j)):=by
 rw [Kj,List.getElem?_map,List.getElem?_range hj,Option.map_some,if_pos h]
theorem Akm {l:List Int} {k:Nat} (hk:k<l.length):(Kj l k).set k (tot (l.take k))=Kj l (k+1):=by
 refine List.ext_getElem? fun j=> ?_
 rw [List.getElem?_set]
 split
 ·rename_i h
  subst h
  rw [if_pos (by rw [Yl];exact hk),Ym (by omega) hk]
 ·rename_i h
  rw [Kj,Kj,List.getElem?_map,List.getElem?_map]
  by_cases hj:j<l.length
  ·rw [List.getElem?_range hj,Option.map_some,Option.map_some]
   congr 1
   by_cases e:j<k
   ·rw [if_pos e,if_pos (by omega)]
   ·rw [if_neg e,if_neg (by omega)]
  ·rw [List.getElem?_eq_none (by rw [List.length_range];omega)];rfl
theorem Ako {l:List Int} {k:Nat} (hk:l.length≤k):Kj l k=Bm l:=by
 rw [Kj,Bm]
 refine List.map_congr_left fun j hj=> ?_
 rw [if_pos (by have:=List.mem_range.1 hj;omega)]
theorem V3 (l:List Int) (h:Nums l):XC Tryz.prog 69 [.sl 1 (B4 l)] (fun r=>r= .sl 1 (B4 (Bm l))):=by
 have hll:=h.len
 refine Ao Ac4 Tryz.func69 R R lb<|zr<|za R R<|znr<|zm R R<|XL.len R R R Tryz.underlying64 fun hl6=>XL.step R (Oi 7 (z:=(.int .i64 0)) (zs:= [dI 0]) (sz:=1) (bytes:=8) R R R Tryz.underlying64 (by kernel_rfl) (by kernel_rfl) (by kernel_rfl) (by decide) (by decide) (by omega) (by unfold maxLen;omega) (by omega))<|zp (A4 R (by conv=>lhs;whnf))<|?_
 refine zn<|zs<|zr<|za R R<|zn<|Ai<|?_
 refine Av (α:=Nat) (fun k=>1≤k∧k≤l.length+1) (fun k=>mkF [(0, .d (.sl 1 (B4 l))),(2, .d (.v (.slice none 0 0))),(3, .own 7),(4, .d (dI k))]) (fun k=>mkH [(7, .row 3 1 ((Kj l k).map iv))]) (fun k=>l.length+1 - k) (1) (⟨Nat.le_refl _,by omega⟩) ?_ ?_ ?_
 exact fz ⟨sr,sr,sr,sr,trivial⟩
 exact gz ⟨by rw [←Akn,List.map_replicate];rfl,trivial⟩
 intro k hk0
 refine zs<|zr<|zm R R<|zm R R<|XL.len R R R Tryz.underlying64 fun hl10=>zp (Aq R R R)<|zn<|?_
 refine zd R (fun c11=> ?_) (fun c11=> ?_)
 have hkl:k<l.length:=by omega
 have h1:=(h.take (k - 1)).tot
 obtain ⟨x,hx⟩:∃x,l[k - 1]? =some x:=Ap (by omega)
 have h2:=h.bd x (List.mem_of_getElem? hx)
 have ho:=Ym (l:=l) (k:=k) (j:=k - 1) (by omega) (by omega)
 have hol:=Yl l k
 obtain ⟨z,hz⟩:∃z,(Kj l k)[k]? =some z:=Ap (by omega)
 have htk:tot (l.take k)=tot (l.take (k - 1))+x:=by have:=Sc hx;rwa [Nat.sub_add_cancel (by omega)] at this
 refine zi<|zs<|Ai<|C3 13 [] (by kernel_rfl) (by kernel_rfl) (by kernel_rfl) (by kernel_rfl) (by decide)<|yp (A3 R (by conv=>lhs;whnf))<|?_
 refine ym R R<|yp (A3 R (by conv=>lhs;whnf))<|?_
 refine ym R R<|yp (Di R R R (by omega) (by omega))<|yp (Dj R R R ((by omega:(k:Int) - 1=((k - 1:Nat):Int))) R C9 (by omega))<|yp (Ff R R Ah R (Cn (ho)) R)<|ym R R<|ym R R<|yp (Di R R R (by omega) (by omega))<|yp (Eu R R R ((by omega:(k:Int) - 1=((k - 1:Nat):Int))) C9 (hx))<|yp (Aw R R Ah)<|yp (Ak R R R (by omega) (by omega))<|?_
 refine ChK.nil ⟨by kernel_rfl, ?_⟩
 refine zp (Kh R R R R C9 (by omega))<|XL.step R (Dl R R R (Cn hz) R R Df R lb)<|zn<|Af (by kernel_rfl)<|zm R R<|zp (Ak R R R (by omega) (by omega))<|za R R<|zn<|?_
 exact Al (k+1) (by omega) (by omega) (fz ⟨sr,sr,sr,sr,trivial⟩) (gz ⟨Ky (a:=tot (l.take k)) (by rw [htk];rfl) (Akm hkl).symm,trivial⟩)
 have he:=Ako (l:=l) (k:=k) (by omega)
 refine At<|zr<|zp (A3 R (by conv=>lhs;whnf))<|?_
 refine zp (A4 R (by conv=>lhs;whnf))<|?_
 exact zn<|zt<|Cp (i:=7) R<|z1 R R (rSl he)
end Go.Proofs.YtcihalbakenleaaGreat
namespace Go.Proofs.YtcihalbakenleaaGreat
open Go.RowKit
def Jk (f:Nat→Int) (n k:Nat):List Int:=(List.range n).map fun j=>if j<k then f j else 0
theorem Wr (f:Nat→Int) (n k:Nat):(Jk f n k).length=n:=by rw [Jk,List.length_map,List.length_range]
theorem Ago (f:Nat→Int) (n:Nat):List.replicate n (0:Int)=Jk f n 0:=by
 rw [Jk]
 refine List.ext_getElem? fun j=> ?_
 rw [List.getElem?_replicate,List.getElem?_map]
 by_cases h:j<n
 ·rw [if_pos h,List.getElem?_range h,Option.map_some,if_neg (by omega)]
 ·rw [if_neg h,List.getElem?_eq_none (by rw [List.length_range];omega)];rfl
theorem Ai4 {f:Nat→Int} {n k:Nat} (hk:k<n):Jk f n (k+1)=(Jk f n k).set k (f k):=by
 refine List.ext_getElem? fun j=> ?_
 rw [List.getElem?_set]
 split
 ·rename_i h
  subst h
  rw [if_pos (by rw [Wr];exact hk),Jk,List.getElem?_map,List.getElem?_range hk,Option.map_some,if_pos (by omega)]
 ·rename_i h
  rw [Jk,Jk,List.getElem?_map,List.getElem?_map]
  by_cases hj:j<n
  ·rw [List.getElem?_range hj,Option.map_some,Option.map_some]
   congr 1
   by_cases e:j<k
   ·rw [if_pos e,if_pos (by omega)]
   ·rw [if_neg e,if_neg (by omega)]
  ·rw [List.getElem?_eq_none (by rw [List.length_range];omega)];rfl
theorem Ai5 {f:Nat→Int} {n k:Nat} (hk:n≤k):Jk f n k=(List.range n).map f:=by
 rw [Jk]
 refine List.map_congr_left fun j hj=> ?_
 rw [if_pos (by have:=List.mem_range.1 hj;omega)]
def L7 (l:List Ev) (j:Nat):Int:=((l[j]?).map Ev.len).getD 0
theorem Akv {l:List Ev} {k:Nat} {e:Ev} (h:l[k]? =some e):L7 l k=e.len:=by rw [L7,h];rfl
theorem Aip (l:List Ev):(List.range l.length).map (L7 l)=wrS l:=by
 refine List.ext_getElem? fun j=> ?_
 rw [List.getElem?_map,wrS,List.getElem?_map]
 by_cases hj:j<l.length
 ·rw [List.getElem?_range hj,Option.map_some,L7,List.getElem?_eq_getElem hj];rfl
 ·rw [List.getElem?_eq_none (by rw [List.length_range];omega),List.getElem?_eq_none (by omega)];rfl
theorem Abx (l:List Ev) (hE:Evs l) (hlen:l.length≤128):XC Tryz.prog 132 [.sl 13 (l.map Ev.c)] (fun r=>r= .sl 1 (B4 (wrS l))):=by
 refine Ao Aaw Tryz.func132 R R lb<|zr<|za R R<|znr<|zm R R<|XL.len R R R Tryz.underlying22 fun hl7=>XL.step R (Oi 8 (z:=(.int .i64 0)) (zs:= [dI 0]) (sz:=1) (bytes:=8) R R R Tryz.underlying64 (by kernel_rfl) (by kernel_rfl) (by kernel_rfl) (by decide) (by decide) (by omega) (by unfold maxLen;omega) (by omega))<|zp (A4 R (by conv=>lhs;whnf))<|?_
 refine zn<|zs<|zr<|zm R R<|XL.len R R R Tryz.underlying22 fun hl10=>zm R R<|zn<|Ai<|?_
 refine Av (α:=Nat) (fun k=>k≤l.length) (fun k=>mkF [(2, .d (.v (.slice none 0 0))),(3, .own 8),(9, .d (.sl 13 (l.map Ev.c))),(10, .d (dI l.length)),(11, .d (dI k))]) (fun k=>mkH [(8, .row 3 1 ((Jk (L7 l) l.length k).map iv))]) (fun k=>l.length - k) (0) (Nat.zero_le _) ?_ ?_ ?_
 exact fz ⟨sr,sr,sr,sr,sr,trivial⟩
 exact gz ⟨by rw [←Ago,List.map_replicate];rfl,trivial⟩
 intro k hk0
 refine zr<|zp (Aq R R R)<|zn<|zs<|?_
 refine zd R (fun c12=> ?_) (fun c12=> ?_)
 have hk0a:k<l.length:=by omega
 obtain ⟨x0,hx0⟩:=Ap hk0a
 have he:=hE x0 (List.mem_of_getElem? hx0)
 have hfl:=Wr (L7 l) l.length k
 obtain ⟨z,hz⟩:∃z,(Jk (L7 l) l.length k)[k]? =some z:=Ap (by omega)
 refine zi<|zs<|Ai<|zr<|zm R R<|zp (Am R R R B7 hx0)<|zp (Ae (s':= .d (.agg (Ev.c x0))) (Ar R R Ax lb) (by kernel_rfl))<|XL.step R (A0 5 (l:= [.d (dI 0), .d (dI 0), .d (dI 0), .d (dI 0), .d (dI 0), .d (.v (.slice none 0 0)), .d (.v (.slice none 0 0)), .d (dI 0), .d (dI 0), .d (dI 0), .d (.v (.slice none 0 0)), .d (dI 0), .d (dI 0)]) R Cm (by kernel_rfl))<|?_
 refine za R R<|XL.step R (Ag (l':= [.d (dI x0.site), .d (dI x0.num), .d (dI x0.kind), .d (dI x0.v.log), .d (dI x0.v.dots), .d (.sl 5 (x0.heads.map Hd.c)), .d (.sl 5 (x0.graces.map Gr.c)), .d (dI x0.art), .d (dI x0.orn), .d (dI x0.dyn), .d (.sl 2 (x0.lyr.map Sy.c)), .d (dI x0.stem), .d (dI x0.beam)]) R R R R Cd R lb (by kernel_rfl))<|zng<|zp (A3 R (by conv=>lhs;whnf))<|?_
 refine zm R R<|zp (Ae (s':= .d (.agg (Ev.c x0))) (Ac (Ad R R Ax R lb)) (by kernel_rfl))<|XL.call1 R R (Afe _ (by assumption)) R<|zm R R<|zp (A6 R R R)<|zp (A6 R R R)<|zp (Kh R R R R C9 (by omega))<|XL.step R (Dl R R R (Cn hz) R R Df R lb)<|zn<|Af (by kernel_rfl)<|zp (Ak R R R (by omega) (by omega))<|zm R R<|zn<|?_
 exact Al (k+1) (by omega) (by omega) (fz ⟨sr,sr,sr,sr,sr,trivial⟩) (gz ⟨Ky (a:=L7 l k) (by rw [Akv hx0];rfl) (Ai4 hk0a),trivial⟩)
 have hk0b:k=l.length:=by omega
 have he:=Ai5 (f:=L7 l) (n:=l.length) (k:=k) (by omega)
 refine At<|zr<|zp (A3 R (by conv=>lhs;whnf))<|?_
 refine zp (A4 R (by conv=>lhs;whnf))<|?_
 exact zn<|zt<|Cp (i:=8) R<|z1 R R (rSl (by rw [he,Aip]))
def Vo.whole (v:Vo):Prop:=match v.evs with| []=>False|e::_=>e.kind=3
instance (v:Vo):Decidable v.whole:=by unfold Vo.whole;cases v.evs<;>exact inferInstance
theorem Gu {v:Vo} {e:Ev} (h:v.evs[0]? =some e):v.whole↔e.kind=3:=by
 unfold Vo.whole
 cases hv:v.evs with
 |nil=>rw [hv] at h;cases h
 |cons x l=>rw [hv] at h;cases h;exact Iff.rfl
theorem Ajp {v:Vo} (h:¬0<(v.evs.length:Int)):¬v.whole:=by
 unfold Vo.whole
 cases hv:v.evs with
 |nil=>exact fun h=>h
 |cons x l=>rw [hv] at h;simp at h
def Vo.absent (v:Vo):Prop:=v.evs.length=0∧v.tups.length=0
instance (v:Vo):Decidable v.absent:=by unfold Vo.absent;exact inferInstance
theorem Xl (v:Vo):XC Tryz.prog 87 [.agg (Vo.c v)] (fun r=>r=dB (decide v.whole)):=by
 refine Ao Acn Tryz.func87 R R lb<|zr<|XL.step R (As 1 (l:= [.d (.sl 13 (v.evs.map Ev.c)), .d (.sl 4 (v.tups.map Tp.c))]) R R (by kernel_rfl))<|za R R<|znr<|zp (Ab R R A1)<|zp (Aa R R Br R R)<|XL.len R R R Tryz.underlying22 fun hl5=>zp (A5 R R R)<|zm R R<|?_
 refine XL.dec 7 R (fun g7=> ?_) (fun g7=> ?_)
 obtain ⟨e,he⟩:∃e,v.evs[0]? =some e:=Ap (by omega)
 exact zp (Ab R R A1)<|zp (Aa R R Br R R)<|zp (Am (k:=0) R R R B7 (he))<|zp (Bq R R Bn)<|zp (Aw R R Ah)<|zp (Az R R R)<|zq R R R<|za R R<|zn<|zt<|z1 R R (rB (by rw [decide_eq_decide];exact (Gu he).symm))
 exact zk 6 R<|zq R R R<|za R R<|zn<|zt<|z1 R R (rB (by rw [eq_comm,decide_eq_false_iff_not];exact Ajp g7))
theorem Tc (v:Vo):XC Tryz.prog 47 [.agg (Vo.c v)] (fun r=>r=dB (decide v.absent)):=by
 refine Ao Adi Tryz.func47 R R lb<|zr<|XL.step R (As 1 (l:= [.d (.sl 13 (v.evs.map Ev.c)), .d (.sl 4 (v.tups.map Tp.c))]) R R (by kernel_rfl))<|za R R<|znr<|zp (Ab R R A1)<|zp (Aa R R Br R R)<|XL.len R R R Tryz.underlying22 fun hl5=>zp (Az R R R)<|zm R R<|?_
 refine XL.dec 7 R (fun g7=> ?_) (fun g7=> ?_)
 exact zp (Ab R R B3)<|zp (Aa R R B0 R R)<|XL.len R R R Tryz.underlying23 fun hl10=>zp (Az R R R)<|zq R R R<|za R R<|zn<|zt<|z1 R R (rB (by rw [decide_eq_decide];unfold Vo.absent;omega))
 exact zk 4 R<|zq R R R<|za R R<|zn<|zt<|z1 R R (rB (by rw [eq_comm,decide_eq_false_iff_not];unfold Vo.absent;omega))
def D7 (n:Nat):Nat→List Ev→Int
 |_, []=>0
 |k,e::r=>if e.err≠0 then e.err else if e.kind=3∧(0<k∨1<n) then 11 else D7 n (k+1) r
def D1 (v:Vo):Int:=
 if D7 v.evs.length 0 v.evs≠0 then D7 v.evs.length 0 v.evs else if Cr v.tups (wrS v.evs)≠0 then Cr v.tups (wrS v.evs) else if Fc v.tups (wrS v.evs)≠0 then 21 else 0
def Fo (v:Vo):List Int:=if D1 v=0 then G7 v.tups (wrS v.evs) else []
theorem Sx {n k:Nat} {l:List Ev} {e:Ev} (h:l[k]? =some e) (he:e.err≠0):D7 n k (l.drop k)=e.err:=by rw [Cj h,D7,if_pos he]
theorem Lk {n k:Nat} {l:List Ev} {e:Ev} (h:l[k]? =some e) (he:¬e.err≠0) (hk:e.kind=3∧(0<k∨1<n)):D7 n k (l.drop k)=11:=by rw [Cj h,D7,if_neg he,if_pos hk]
theorem Ns {n k:Nat} {l:List Ev} {e:Ev} (h:l[k]? =some e) (he:¬e.err≠0) (hk:¬(e.kind=3∧(0<k∨1<n))):D7 n k (l.drop k)=D7 n (k+1) (l.drop (k+1)):=by rw [Cj h,D7,if_neg he,if_neg hk]
theorem Nr {v:Vo} {e:Int} (he:e=D7 v.evs.length 0 v.evs) (hn:e≠0): []=Fo v∧e=D1 v:=by
 have e2:D1 v=e:=by rw [D1, ←he,if_pos hn]
 exact ⟨by rw [Fo,e2,if_neg hn],e2.symm⟩
theorem Agf {v:Vo} (h:D7 v.evs.length 0 v.evs=0) (hn:Cr v.tups (wrS v.evs)≠0): []=Fo v∧Cr v.tups (wrS v.evs)=D1 v:=by
 have e2:D1 v=Cr v.tups (wrS v.evs):=by rw [D1,if_neg (by omega),if_pos hn]
 exact ⟨by rw [Fo,e2,if_neg hn],e2.symm⟩
theorem Age {v:Vo} (h:D7 v.evs.length 0 v.evs=0) (h2:¬Cr v.tups (wrS v.evs)≠0) (hn:Fc v.tups (wrS v.evs)≠0): []=Fo v∧21=D1 v:=by
 have e2:D1 v=21:=by rw [D1,if_neg (by omega),if_neg h2,if_pos hn]
 exact ⟨by rw [Fo,e2,if_neg (by decide)],e2.symm⟩
theorem Agd {v:Vo} (h:D7 v.evs.length 0 v.evs=0) (h2:¬Cr v.tups (wrS v.evs)≠0) (h3:¬Fc v.tups (wrS v.evs)≠0):G7 v.tups (wrS v.evs)=Fo v∧0=D1 v:=by
 have e2:D1 v=0:=by rw [D1,if_neg (by omega),if_neg h2,if_neg h3]
 exact ⟨by rw [Fo,e2,if_pos rfl],e2.symm⟩
theorem Sw (v:Vo) (hE:Evs v.evs) (hlen:v.evs.length≤128):XC Tryz.prog 88 [.agg (Vo.c v)] (fun r=>r= .tup [.sl 1 (B4 (Fo v)),dI (D1 v)]):=by
 refine Ao Acm Tryz.func88 R R lb<|zr<|XL.step R (As 1 (l:= [.d (.sl 13 (v.evs.map Ev.c)), .d (.sl 4 (v.tups.map Tp.c))]) R R (by kernel_rfl))<|za R R<|za R R<|zn<|zs<|zr<|zp (Ab R R A1)<|zp (Aa R R Br R R)<|XL.len R R R Tryz.underlying22 fun hl14=>zm R R<|zn<|Ai<|?_
 refine Av (α:=Nat) (fun k=>k≤v.evs.length∧D7 v.evs.length k (v.evs.drop k)=D7 v.evs.length 0 v.evs) (fun k=>mkF [(1, .ptr 1 0 0),(13, .d (.sl 13 (v.evs.map Ev.c))),(14, .d (dI v.evs.length)),(15, .d (dI k))]) (fun k=>mkH [(1, .box ((Vo.c v).map S.d))]) (fun k=>v.evs.length - k) (0) (⟨Nat.zero_le _,by rw [List.drop_zero]⟩) ?_ ?_ ?_
 exact fz ⟨sr,sr,sr,sr,trivial⟩
 exact gz ⟨R,trivial⟩
 intro k hk0
 obtain ⟨hk,hgo⟩:=hk0
 refine zr<|zp (Aq R R R)<|zn<|zs<|?_
 refine zd R (fun c16=> ?_) (fun c16=> ?_)
 have hk0a:k<v.evs.length:=by omega
 obtain ⟨x0,hx0⟩:=Ap hk0a
 have he:=hE x0 (List.mem_of_getElem? hx0)
 refine zi<|zs<|Ai<|zr<|zm R R<|zp (Am R R R B7 hx0)<|zp (Ae (s':= .d (.agg (Ev.c x0))) (Ar R R Ax lb) (by kernel_rfl))<|XL.step R (A0 5 (l:= [.d (dI 0), .d (dI 0), .d (dI 0), .d (dI 0), .d (dI 0), .d (.v (.slice none 0 0)), .d (.v (.slice none 0 0)), .d (dI 0), .d (dI 0), .d (dI 0), .d (.v (.slice none 0 0)), .d (dI 0), .d (dI 0)]) R Cm (by kernel_rfl))<|?_
 refine za R R<|XL.step R (Ag (l':= [.d (dI x0.site), .d (dI x0.num), .d (dI x0.kind), .d (dI x0.v.log), .d (dI x0.v.dots), .d (.sl 5 (x0.heads.map Hd.c)), .d (.sl 5 (x0.graces.map Gr.c)), .d (dI x0.art), .d (dI x0.orn), .d (dI x0.dyn), .d (.sl 2 (x0.lyr.map Sy.c)), .d (dI x0.stem), .d (dI x0.beam)]) R R R R Cd R lb (by kernel_rfl))<|zn<|zs<|zr<|?_
 refine zp (Ae (s':= .d (.agg (Ev.c x0))) (Ac (Ad R R Ax R lb)) (by kernel_rfl))<|XL.call1 R R (N1 _ (by assumption)) R<|za R R<|znr<|zm R R<|zp (A9 R R R)<|zn<|?_
 refine zd R (fun c23=> ?_) (fun c23=> ?_)
 refine zr<|zm R R<|za R R<|za R R<|zn<|zt<|?_
 exact Bl R (RV.nil (sz:=1) R R) (RV.tmp R R) (r2 (rSl (Nr (by rw [←hgo,Sx hx0 c23]) c23).1) (rI (Nr (by rw [←hgo,Sx hx0 c23]) c23).2))
 refine zi<|zr<|zp (Ab R R Bn)<|zp (Aa R R Ah R R)<|zp (Az R R R)<|zm R R<|?_
 refine XL.dec 28 R (fun g28=> ?_) (fun g28=> ?_)
 refine zm R R<|zp (A5 R R R)<|zm R R<|?_
 refine XL.dec 31 R (fun g31=> ?_) (fun g31=> ?_)
 refine zk 4 R<|zq R R R<|zq R R R<|zn<|An (by kernel_rfl) R<|zr<|za R R<|za R R<|zn<|zt<|?_
 exact Bl R (RV.nil (sz:=1) R R) (RV.tmp R R) (r2 (rSl (Nr (e:=11) (by rw [←hgo,Lk hx0 c23 (by omega)]) (by decide)).1) (rI (Nr (by rw [←hgo,Lk hx0 c23 (by omega)]) (by decide)).2))
 refine zp (Ab R R A1)<|zp (Aa R R Br R R)<|XL.len R R R Tryz.underlying22 fun hl34=>zp (A5 R R R)<|zq R R R<|zq R R R<|zn<|?_
 refine zd R (fun c37=> ?_) (fun c37=> ?_)
 refine zr<|za R R<|za R R<|zn<|zt<|?_
 exact Bl R (RV.nil (sz:=1) R R) (RV.tmp R R) (r2 (rSl (Nr (e:=11) (by rw [←hgo,Lk hx0 c23 (by omega)]) (by decide)).1) (rI (Nr (by rw [←hgo,Lk hx0 c23 (by omega)]) (by decide)).2))
 refine zi<|Af (by kernel_rfl)<|zp (Ak R R R (by omega) (by omega))<|zm R R<|zn<|?_
 exact Al (k+1) (⟨by omega,by rw [←Ns hx0 c23 (by omega)];exact hgo⟩) (by omega) (fz ⟨sr,sr,sr,sr,trivial⟩) (gz ⟨rfl,trivial⟩)
 refine zk 8 R<|zq R R R<|zn<|Bb (by kernel_rfl) R<|zi<|Af (by kernel_rfl)<|zp (Ak R R R (by omega) (by omega))<|zm R R<|zn<|?_
 exact Al (k+1) (⟨by omega,by rw [←Ns hx0 c23 (by omega)];exact hgo⟩) (by omega) (fz ⟨sr,sr,sr,sr,trivial⟩) (gz ⟨rfl,trivial⟩)
 have hk0b:k=v.evs.length:=by omega
 have hz:D7 v.evs.length 0 v.evs=0:=by rw [←hgo,hk0b,List.drop_length];rfl
 refine At<|zr<|zp (Ab R R A1)<|zp (Aa R R Br R R)<|XL.call1 R R (Abx _ (by assumption) (by omega)) R<|za R R<|znr<|zp (Ab R R B3)<|zp (Aa R R B0 R R)<|zm R R<|XL.call1 R R (Rt _ _) R<|zm R R<|zp (A6 R R R)<|zp (A6 R R R)<|?_
 refine za R R<|za R R<|zn<|zs<|zr<|zm R R<|zp (A9 R R R)<|zn<|?_
 refine zd R (fun c50=> ?_) (fun c50=> ?_)
 refine zr<|zm R R<|za R R<|za R R<|zn<|zt<|?_
 exact Bl R (RV.nil (sz:=1) R R) (RV.tmp R R) (r2 (rSl (Agf hz c50).1) (rI (Agf hz c50).2))
 refine zi<|zs<|zr<|zp (Ab R R B3)<|zp (Aa R R B0 R R)<|zm R R<|XL.call1 R R (Ajq _ _) R<|zm R R<|zp (A6 R R R)<|zp (A6 R R R)<|za R R<|za R R<|znr<|zm R R<|?_
 refine zp (A9 R R R)<|zn<|?_
 refine zd R (fun c60=> ?_) (fun c60=> ?_)
 refine zr<|za R R<|za R R<|zn<|zt<|?_
 exact Bl R (RV.nil (sz:=1) R R) (RV.tmp R R) (r2 (rSl (Age hz c50 c60).1) (rI (Age hz c50 c60).2))
 refine zi<|zr<|zm R R<|za R R<|za R R<|zn<|zt<|?_
 exact Bl R (RV.tmp R R) (RV.tmp R R) (r2 (rSl (Agd hz c50 c60).1) (rI (Agd hz c50 c60).2))
def Ca (v:Vo) (L:Int):Int:=
 if L<1∨15482880<L then 2 else if 128<v.evs.length then 9 else
 if v.whole∧v.evs.length=1 then (match v.evs with| []=>0|e::_=>if e.err≠0 then e.err else if 0<v.tups.length then 21 else 0) else D1 v
def D6 (v:Vo) (L:Int):List Int:=if Ca v L≠0 then [] else if v.whole∧v.evs.length=1 then [L] else Fo v
def ckE (v:Vo) (L:Int):Int:=if Ca v L=0∧0<(D6 v L).length∧tot (D6 v L)≠L then 20 else Ca v L
def ckL (v:Vo) (L:Int):List Int:=if ckE v L≠0 then [] else D6 v L
theorem Rg {v:Vo} {L:Int} (h:L<1∨15482880<L): []=D6 v L∧2=Ca v L:=by
 have e:Ca v L=2:=by rw [Ca,if_pos h]
 exact ⟨by rw [D6,e,if_pos (by decide)],e.symm⟩
theorem Aga {v:Vo} {L:Int} (h:¬L<1) (h':¬15482880<L) (h2:128<(v.evs.length:Int)): []=D6 v L∧9=Ca v L:=by
 have e:Ca v L=9:=by rw [Ca,if_neg (by omega),if_pos (by omega)]
 exact ⟨by rw [D6,e,if_pos (by decide)],e.symm⟩
theorem Xb {v:Vo} {L:Int} (h:¬L<1) (h':¬15482880<L) (h2:¬128<(v.evs.length:Int)) (hw:v.whole) (h1:(v.evs.length:Int)=1) {e:Ev} (he:v.evs[0]? =some e):
  Ca v L=(if e.err≠0 then e.err else if 0<v.tups.length then 21 else 0):=by
 rw [Ca,if_neg (by omega),if_neg (by omega),if_pos ⟨hw,by omega⟩]
 cases hv:v.evs with
 |nil=>rw [hv] at he;cases he
 |cons x l=>rw [hv] at he;cases he;rfl
theorem Uc {v:Vo} {L:Int} (h:¬L<1) (h':¬15482880<L) (h2:¬128<(v.evs.length:Int)) (hw:¬(v.whole∧(v.evs.length:Int)=1)):Fo v=D6 v L∧D1 v=Ca v L:=by
 have hw':¬(v.whole∧v.evs.length=1):=fun k=>hw ⟨k.1,by omega⟩
 have e:Ca v L=D1 v:=by rw [Ca,if_neg (by omega),if_neg (by omega),if_neg hw']
 refine ⟨?_,e.symm⟩
 rw [D6,e,if_neg hw']
 split
 ·rename_i hn;rw [Fo,if_neg hn]
 ·rfl
theorem Ud {v:Vo} {L a:Int} (h:Ca v L=a) (ha:a≠0): []=D6 v L∧a=Ca v L:=⟨by rw [D6,h,if_pos ha],h.symm⟩
theorem Ain {v:Vo} {L:Int} (h:Ca v L=0) (hw:v.whole) (h1:(v.evs.length:Int)=1): [L]=D6 v L∧0=Ca v L:=⟨by rw [D6,h,if_neg (by decide),if_pos ⟨hw,by omega⟩],h.symm⟩
theorem Af9 (v:Vo) (L:Int) (hE:Evs v.evs):XC Tryz.prog 71 [.agg (Vo.c v), .v (.int .i64 L)] (fun r=>r= .tup [.sl 1 (B4 (D6 v L)),dI (Ca v L)]):=by
 refine Ao Ac2 Tryz.func71 R R lb<|zr<|XL.step R (As 2 (l:= [.d (.sl 13 (v.evs.map Ev.c)), .d (.sl 4 (v.tups.map Tp.c))]) R R (by kernel_rfl))<|za R R<|za R R<|zn<|zs<|Ai<|zr<|zm R R<|zp (Aq R R R)<|zm R R<|?_
 refine XL.dec 10 R (fun g10=> ?_) (fun g10=> ?_)
 refine zk 2 R<|zq R R R<|za R R<|zn<|An (by kernel_rfl) R<|zr<|za R R<|za R R<|zn<|zt<|?_
 exact Bl R (RV.nil (sz:=1) R R) (RV.tmp R R) (r2 (rSl (Rg (v:=v) (by omega)).1) (rI (Rg (v:=v) (by omega)).2))
 refine zm R R<|zp (A5 R R R)<|zq R R R<|za R R<|zn<|?_
 refine zd R (fun c7=> ?_) (fun c7=> ?_)
 refine zr<|za R R<|za R R<|zn<|zt<|?_
 exact Bl R (RV.nil (sz:=1) R R) (RV.tmp R R) (r2 (rSl (Rg (v:=v) (by omega)).1) (rI (Rg (v:=v) (by omega)).2))
 refine zr<|zp (Ab R R A1)<|zp (Aa R R Br R R)<|XL.len R R R Tryz.underlying22 fun hl17=>zp (A5 R R R)<|za R R<|zn<|?_
 refine zd R (fun c14=> ?_) (fun c14=> ?_)
 refine zr<|za R R<|za R R<|zn<|zt<|?_
 exact Bl R (RV.nil (sz:=1) R R) (RV.tmp R R) (r2 (rSl (Aga g10 c7 c14).1) (rI (Aga g10 c7 c14).2))
 refine zi<|zs<|zr<|zp (Ae (s':= .d (.agg (Vo.c v))) (Ac (Ad R R Au R lb)) (by kernel_rfl))<|XL.call1 R R (Xl _) R<|zm R R<|?_
 refine XL.dec 21 R (fun g21=> ?_) (fun g21=> ?_)
 refine zp (Ab R R A1)<|zp (Aa R R Br R R)<|XL.len R R R Tryz.underlying22 fun hl24=>zp (Az R R R)<|zq R R R<|zn<|?_
 refine zd R (fun c26=> ?_) (fun c26=> ?_)
 refine zs<|zs<|?_
 obtain ⟨e,hxe⟩:∃e,v.evs[0]? =some e:=Ap (by omega)
 have he:=hE e (List.mem_of_getElem? hxe)
 have hle:=Xb (L:=L) g10 c7 c14 g21 c26 hxe
 refine Af (by kernel_rfl)<|zp (Ab R R A1)<|zp (Aa R R Br R R)<|zp (Am (k:=0) R R R B7 (hxe))<|zp (Ae (s':= .d (.agg (Ev.c e))) (Ar R R Ax lb) (by kernel_rfl))<|XL.call1 R R (N1 _ (by assumption)) R<|za R R<|znr<|zm R R<|zp (A9 R R R)<|zn<|?_
 refine zd R (fun c33=> ?_) (fun c33=> ?_)
 refine zr<|zm R R<|za R R<|za R R<|zn<|zt<|?_
 exact Bl R (RV.nil (sz:=1) R R) (RV.tmp R R) (r2 (rSl (Ud (by rw [hle,if_pos c33]) c33).1) (rI (Ud (by rw [hle,if_pos c33]) c33).2))
 refine zi<|zs<|zr<|zp (Ab R R B3)<|zp (Aa R R B0 R R)<|XL.len R R R Tryz.underlying23 fun hl37=>zp (A5 R R R)<|zn<|?_
 refine zd R (fun c38=> ?_) (fun c38=> ?_)
 refine zr<|za R R<|za R R<|zn<|zt<|?_
 exact Bl R (RV.nil (sz:=1) R R) (RV.tmp R R) (r2 (rSl (Ud (a:=21) (by rw [hle,if_neg c33,if_pos (by omega)]) (by decide)).1) (rI (Ud (a:=21) (by rw [hle,if_neg c33,if_pos (by omega)]) (by decide)).2))
 refine zi<|zr<|zm R R<|XL.step R (B6 40 R Tryz.underlying64 Df Gt R R (by omega) (by omega))<|zp (A4 R (by conv=>lhs;whnf))<|?_
 refine za R R<|zn<|zt<|Cp (i:=40) R<|?_
 exact Bl R (RV.tmp R R) (RV.tmp R R) (r2 (rSl (l:= [L]) (g:=iv) (Ain (by rw [hle,if_neg c33,if_neg (by omega)]) g21 c26).1) (rI (Ain (by rw [hle,if_neg c33,if_neg (by omega)]) g21 c26).2))
 refine zi<|zr<|zp (Ae (s':= .d (.agg (Vo.c v))) (Ac (Ad R R Au R lb)) (by kernel_rfl))<|XL.call1 R R (Sw _ (by assumption) (by omega)) R<|zp (A6 R R R)<|zp (A6 R R R)<|za R R<|za R R<|zn<|zt<|?_
 exact Bl R (RV.tmp R R) (RV.tmp R R) (r2 (rSl (Uc g10 c7 c14 (fun h=>c26 h.2)).1) (rI (Uc g10 c7 c14 (fun h=>c26 h.2)).2))
 refine zk 4 R<|zq R R R<|zn<|Bb (by kernel_rfl) R<|zi<|zr<|zp (Ae (s':= .d (.agg (Vo.c v))) (Ac (Ad R R Au R lb)) (by kernel_rfl))<|XL.call1 R R (Sw _ (by assumption) (by omega)) R<|zp (A6 R R R)<|zp (A6 R R R)<|za R R<|za R R<|zn<|zt<|?_
 exact Bl R (RV.tmp R R) (RV.tmp R R) (r2 (rSl (Uc g10 c7 c14 (fun h=>g21 h.1)).1) (rI (Uc g10 c7 c14 (fun h=>g21 h.1)).2))
end Go.Proofs.YtcihalbakenleaaGreat
