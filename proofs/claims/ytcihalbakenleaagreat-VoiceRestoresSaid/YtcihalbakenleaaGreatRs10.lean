/- Part 10 of what the statements need: lemmas and walks. -/
import Derived.Test.YtcihalbakenleaaGreatRs9
set_option linter.unusedVariables false
set_option linter.unusedSimpArgs false
set_option linter.unusedSectionVars false
set_option maxRecDepth 20000
set_option maxHeartbeats 8000000
namespace Go.Proofs.YtcihalbakenleaaGreat
open Go.RowKit
structure Vo.fit3 (v:Vo):Prop where
 evs:v.evs.length≤3000
 tups:v.tups.length≤1000
 ev:∀e∈v.evs,e.fit
theorem Vo.fit.f3 {v:Vo} (h:v.fit):v.fit3:=⟨Nat.le_trans h.evs (by decide),h.tups,h.ev⟩
theorem Ahp {y:Ev} {x:Hd} (h:x.tied=true) (k:y.kind=1):Gk y x=⟨x.p,Jg y.heads x.p,x.sh⟩:=by unfold Gk;rw [h,decide_eq_true k];rfl
theorem Aho {y:Ev} {x:Hd} (k:¬y.kind=1):Gk y x=⟨x.p,false,x.sh⟩:=by unfold Gk;rw [decide_eq_false k,Bool.false_and,Bool.and_false]
theorem Ahn {y:Ev} {x:Hd} (h:¬x.tied=true):Gk y x=⟨x.p,false,x.sh⟩:=by
 have:x.tied=false:=by simpa using h
 unfold Gk;rw [this,Bool.false_and]
theorem Anz {x:Vo} (h:D1 x=0) (hl:x.evs.length≤128):Sml x:=by
 have h2:=(U1 h).2
 have hT:=Iy (fun k=>k h2)
 refine ⟨by omega,by have:=hT.len;omega,fun t ht=> ?_⟩
 have:=hT.ok t ht
 unfold Tp.ok at this
 omega
def Vo.err0 (x:Vo):Int:=match x.evs[0]? with|some e=>e.err|none=>0
theorem Ae4 {x:Vo} {e:Ev} (h:x.evs[0]? =some e):x.err0=e.err:=by unfold Vo.err0;rw [h]
def Qh (d:Vo) (f l:Nat) (x:Vo):Vo:=⟨Dd (Dd (A8 d f (l - f) x).evs ((f:Nat) - 1)) ((f:Nat)+x.evs.length - 1),(A8 d f (l - f) x).tups⟩
def Ir (v:Vo) (a b:Int) (d:Vo) (f l:Nat) (x:Vo):Vo × Int:=
 if 128<(x.evs.length:Int) then (⟨[], []⟩,9) else if x.whole then (⟨[], []⟩,if x.err0≠0 then x.err0 else 11) else if D1 x≠0 then (⟨[], []⟩,D1 x) else if tot (Fo x)≠b - a then (⟨[], []⟩,20) else if a=b then (v,0) else
 if 128<((A8 d f (l - f) x).evs.length:Int)∨16<((A8 d f (l - f) x).tups.length:Int) then (⟨[], []⟩,9) else (Qh d f l x,0)
def Lb (v:Vo) (p:Pl) (a b:Int) (x:Vo):Vo × Int:=if (Eo v p a b).2.2.2≠0 then (⟨[], []⟩,(Eo v p a b).2.2.2) else Ir v a b (Eo v p a b).1 (Eo v p a b).2.1.toNat (Eo v p a b).2.2.1.toNat x
theorem Asd {v:Vo} {p:Pl} {a b:Int} {d x:Vo} {f l:Nat} {e:Int} (h:Eo v p a b=(d,(f:Int),(l:Int),e)) (he:e≠0):Lb v p a b x=(⟨[], []⟩,e):=by rw [Lb,h,if_pos he]
theorem Mx {v:Vo} {p:Pl} {a b:Int} {d x:Vo} {f l:Nat} {e:Int} (h:Eo v p a b=(d,(f:Int),(l:Int),e)) (he:¬e≠0):Lb v p a b x=Ir v a b d f l x:=by rw [Lb,h,if_neg he];rfl
section
variable {v d x:Vo} {a b:Int} {f l:Nat}
theorem Asc (h:128<(x.evs.length:Int)):Ir v a b d f l x=(⟨[], []⟩,9):=by rw [Ir,if_pos h]
theorem Asb {e:Ev} (h:¬128<(x.evs.length:Int)) (h2:x.whole) (he:x.evs[0]? =some e) (h3:e.err≠0):Ir v a b d f l x=(⟨[], []⟩,e.err):=by rw [Ir,if_neg h,if_pos h2,Ae4 he,if_pos h3]
theorem Apd {e:Ev} (h:¬128<(x.evs.length:Int)) (h2:x.whole) (he:x.evs[0]? =some e) (h3:¬e.err≠0):Ir v a b d f l x=(⟨[], []⟩,11):=by rw [Ir,if_neg h,if_pos h2,Ae4 he,if_neg h3]
theorem Asa (h:¬128<(x.evs.length:Int)) (h2:¬x.whole) (h3:D1 x≠0):Ir v a b d f l x=(⟨[], []⟩,D1 x):=by rw [Ir,if_neg h,if_neg h2,if_pos h3]
theorem Ar9 (h:¬128<(x.evs.length:Int)) (h2:¬x.whole) (h3:¬D1 x≠0) (h4:tot (Fo x)≠b - a):Ir v a b d f l x=(⟨[], []⟩,20):=by rw [Ir,if_neg h,if_neg h2,if_neg h3,if_pos h4]
theorem Ar8 (h:¬128<(x.evs.length:Int)) (h2:¬x.whole) (h3:¬D1 x≠0) (h4:¬tot (Fo x)≠b - a) (h5:a=b):Ir v a b d f l x=(v,0):=by rw [Ir,if_neg h,if_neg h2,if_neg h3,if_neg h4,if_pos h5]
theorem Apc (h:¬128<(x.evs.length:Int)) (h2:¬x.whole) (h3:¬D1 x≠0) (h4:¬tot (Fo x)≠b - a) (h5:¬a=b) (h6:128<((A8 d f (l - f) x).evs.length:Int)∨16<((A8 d f (l - f) x).tups.length:Int)):Ir v a b d f l x=(⟨[], []⟩,9):=by rw [Ir,if_neg h,if_neg h2,if_neg h3,if_neg h4,if_neg h5,if_pos h6]
theorem Apb (h:¬128<(x.evs.length:Int)) (h2:¬x.whole) (h3:¬D1 x≠0) (h4:¬tot (Fo x)≠b - a) (h5:¬a=b) (h6:¬(128<((A8 d f (l - f) x).evs.length:Int)∨16<((A8 d f (l - f) x).tups.length:Int))):Ir v a b d f l x=(Qh d f l x,0):=by rw [Ir,if_neg h,if_neg h2,if_neg h3,if_neg h4,if_neg h5,if_neg h6]
end
theorem Qe {d x:Vo} {f n:Nat} (hd:∀e∈d.evs,e.fit) (hx:∀e∈x.evs,e.fit):∀e∈(A8 d f n x).evs,e.fit:=by
 intro e he
 simp only [A8] at he
 rcases List.mem_append.1 he with he|he
 ·rcases List.mem_append.1 he with he|he
  ·exact hd e (List.mem_of_mem_take he)
  ·exact hx e he
 ·exact hd e (List.mem_of_mem_drop he)
theorem Aj8 {d x:Vo} {f l:Nat} (hd:d.fit) (hx:x.fit3) (h:¬(128<((A8 d f (l - f) x).evs.length:Int)∨16<((A8 d f (l - f) x).tups.length:Int))):(Qh d f l x).fit:=by
 refine ⟨?_, ?_,fun e he=>O1 (O1 (Qe hd.ev hx.ev) _) _ e he⟩
 ·show (Dd (Dd (A8 d f (l - f) x).evs ((f:Nat) - 1)) ((f:Nat)+x.evs.length - 1)).length≤1000
  rw [O0,O0];omega
 ·show (A8 d f (l - f) x).tups.length≤1000
  omega
theorem Ape (v:Vo) (p:Pl) (a b:Int) (z:Vo) (hE:Evs v.evs) (hF:v.fit) (hEx:Evs z.evs) (hFx:z.fit3):XC Tryz.prog 41 [.agg (Vo.c v), .agg (Pl.c p), .v (.int .i64 a), .v (.int .i64 b), .agg (Vo.c z)] (fun r=>r= .tup [.agg (Vo.c (Lb v p a b z).1),dI (Lb v p a b z).2]):=by
 obtain ⟨d,f,l,e,hreg,hok⟩:=Mw v p a b
 refine Ao Adl Tryz.func41 R R lb<|zr<|XL.step R (As 5 (l:= [.d (.sl 13 (v.evs.map Ev.c)), .d (.sl 4 (v.tups.map Tp.c))]) R R (by kernel_rfl))<|XL.step R (As 6 (l:= [.d (dI p.m.count), .d (dI p.m.unit), .d (dI p.m.g0), .d (dI p.m.g1), .d (dI p.m.g2), .d (dI p.m.g3), .d (dI p.m.g4), .d (dI p.m.g5), .d (dI p.off), .d (dI p.len)]) R R (by kernel_rfl))<|?_
 refine XL.step R (As 9 (l:= [.d (.sl 13 (z.evs.map Ev.c)), .d (.sl 4 (z.tups.map Tp.c))]) R R (by kernel_rfl))<|XL.step R (A0 10 (l:= [.d (.v (.slice none 0 0)), .d (.v (.slice none 0 0))]) R Ba (by kernel_rfl))<|za R R<|znr<|zp (Ae (s':= .d (.agg (Vo.c v))) (Ac (Ad R R Au R lb)) (by kernel_rfl))<|?_
 refine zp (Ae (s':= .d (.agg (Pl.c p))) (Ac (Ad R R Fu R lb)) (by kernel_rfl))<|zm R R<|zm R R<|XL.call1 R R (Ah0 hE hF hreg) R<|zm R R<|zp (A6 R R R)<|zp (A6 R R R)<|zp (A6 R R R)<|zp (A6 R R R)<|XL.step R (A0 12 (l:= [.d (.v (.slice none 0 0)), .d (.v (.slice none 0 0))]) R Ba (by kernel_rfl))<|?_
 refine XL.step R (Ag (l':= [.d (.sl 13 (d.evs.map Ev.c)), .d (.sl 4 (d.tups.map Tp.c))]) R R R R Bu R lb (by kernel_rfl))<|za R R<|za R R<|za R R<|zn<|zs<|zr<|zm R R<|zp (A9 R R R)<|zn<|?_
 refine zd R (fun c30=> ?_) (fun c30=> ?_)
 refine zr<|zp (Ae (s':= .d (.agg [.v (.slice none 0 0), .v (.slice none 0 0)])) (Ac (Be R Cg Ba R)) (by kernel_rfl))<|zm R R<|XL.step R (Ag (l':= [.d (.v (.slice none 0 0)), .d (.v (.slice none 0 0))]) R R R R Bu R lb (by kernel_rfl))<|za R R<|zn<|zt<|?_
 exact Bl R (RV.sub (RV.cells R R R Au lb R) (.agg (.cons (.nil 13) (.cons (.nil 4) (.nil))))) (RV.tmp R R) (r2v (Asd hreg c30))
 refine zi<|zs<|zs<|?_
 have hO:=hok (by omega)
 have hFd:=hO.fit hF
 obtain ⟨hsd,hdl⟩:=Kp (Ds hO.chk).2.2
 have hfl:=hO.fl
 have hll:=hO.ll
 have hab:=hO.rng
 have hpb:=(Ds hO.hc).2.1
 unfold Pl.bad at hpb
 refine Af (by kernel_rfl)<|zp (Ab R R A1)<|zp (Aa R R Br R R)<|XL.len R R R Tryz.underlying22 fun hl35=>zp (A5 R R R)<|zn<|?_
 refine zd R (fun c36=> ?_) (fun c36=> ?_)
 refine zr<|zp (Ae (s':= .d (.agg [.v (.slice none 0 0), .v (.slice none 0 0)])) (Ac (Be R Cg Ba R)) (by kernel_rfl))<|XL.step R (Ag (l':= [.d (.v (.slice none 0 0)), .d (.v (.slice none 0 0))]) R R R R Bu R lb (by kernel_rfl))<|za R R<|zn<|zt<|?_
 exact Bl R (RV.sub (RV.cells R R R Au lb R) (.agg (.cons (.nil 13) (.cons (.nil 4) (.nil))))) (RV.tmp R R) (r2v ((Mx hreg c30).trans (Asc c36)))
 refine zi<|zs<|zr<|zp (Ae (s':= .d (.agg (Vo.c z))) (Ac (Ad R R Au R lb)) (by kernel_rfl))<|XL.call1 R R (Xl _) R<|zn<|?_
 refine zd R (fun c39=> ?_) (fun c39=> ?_)
 refine zs<|zs<|?_
 obtain ⟨e0,he0⟩:=Xm c39
 have he0a:=hEx e0 (List.mem_of_getElem? he0)
 refine Af (by kernel_rfl)<|zp (Ab R R A1)<|zp (Aa R R Br R R)<|zp (Am (k:=0) R R R B7 (he0))<|zp (Ae (s':= .d (.agg (Ev.c e0))) (Ar R R Ax lb) (by kernel_rfl))<|XL.call1 R R (N1 _ (by assumption)) R<|za R R<|znr<|zm R R<|zp (A9 R R R)<|zn<|?_
 refine zd R (fun c46=> ?_) (fun c46=> ?_)
 refine zr<|zp (Ae (s':= .d (.agg [.v (.slice none 0 0), .v (.slice none 0 0)])) (Ac (Be R Cg Ba R)) (by kernel_rfl))<|zm R R<|XL.step R (Ag (l':= [.d (.v (.slice none 0 0)), .d (.v (.slice none 0 0))]) R R R R Bu R lb (by kernel_rfl))<|za R R<|zn<|zt<|?_
 exact Bl R (RV.sub (RV.cells R R R Au lb R) (.agg (.cons (.nil 13) (.cons (.nil 4) (.nil))))) (RV.tmp R R) (r2v ((Mx hreg c30).trans (Asb c36 c39 he0 c46)))
 refine zi<|zr<|zp (Ae (s':= .d (.agg [.v (.slice none 0 0), .v (.slice none 0 0)])) (Ac (Be R Cg Ba R)) (by kernel_rfl))<|XL.step R (Ag (l':= [.d (.v (.slice none 0 0)), .d (.v (.slice none 0 0))]) R R R R Bu R lb (by kernel_rfl))<|za R R<|zn<|zt<|?_
 exact Bl R (RV.sub (RV.cells R R R Au lb R) (.agg (.cons (.nil 13) (.cons (.nil 4) (.nil))))) (RV.tmp R R) (r2v ((Mx hreg c30).trans (Apd c36 c39 he0 c46)))
 refine zi<|zr<|zp (Ae (s':= .d (.agg (Vo.c z))) (Ac (Ad R R Au R lb)) (by kernel_rfl))<|XL.call1 R R (Sw _ (by assumption) (by omega)) R<|zm R R<|zp (A6 R R R)<|zp (A6 R R R)<|za R R<|za R R<|zn<|zs<|Ai<|zr<|zm R R<|?_
 refine zp (A9 R R R)<|za R R<|zn<|?_
 refine zd R (fun c55=> ?_) (fun c55=> ?_)
 refine zr<|zp (Ae (s':= .d (.agg [.v (.slice none 0 0), .v (.slice none 0 0)])) (Ac (Be R Cg Ba R)) (by kernel_rfl))<|zm R R<|XL.step R (Ag (l':= [.d (.v (.slice none 0 0)), .d (.v (.slice none 0 0))]) R R R R Bu R lb (by kernel_rfl))<|za R R<|zn<|zt<|?_
 exact Bl R (RV.sub (RV.cells R R R Au lb R) (.agg (.cons (.nil 13) (.cons (.nil 4) (.nil))))) (RV.tmp R R) (r2v ((Mx hreg c30).trans (Asa c36 c39 c55)))
 refine zs<|?_
 have hNx:=V4 z
 refine Af (by kernel_rfl)<|zm R R<|XL.call1 R R (Sb _ (by assumption)) R<|zm R R<|zm R R<|zp (Di R R R (by omega) (by omega))<|zp (A9 R R R)<|za R R<|zn<|?_
 refine zd R (fun c60=> ?_) (fun c60=> ?_)
 refine zr<|zp (Ae (s':= .d (.agg [.v (.slice none 0 0), .v (.slice none 0 0)])) (Ac (Be R Cg Ba R)) (by kernel_rfl))<|XL.step R (Ag (l':= [.d (.v (.slice none 0 0)), .d (.v (.slice none 0 0))]) R R R R Bu R lb (by kernel_rfl))<|za R R<|zn<|zt<|?_
 exact Bl R (RV.sub (RV.cells R R R Au lb R) (.agg (.cons (.nil 13) (.cons (.nil 4) (.nil))))) (RV.tmp R R) (r2v ((Mx hreg c30).trans (Ar9 c36 c39 c55 c60)))
 refine zr<|zm R R<|zm R R<|zp (Az R R R)<|za R R<|zn<|?_
 refine zd R (fun c68=> ?_) (fun c68=> ?_)
 refine zr<|zp (Ae (s':= .d (.agg (Vo.c v))) (Ac (Ad R R Au R lb)) (by kernel_rfl))<|XL.call1 R R (Gp _ (by assumption)) R<|XL.step R (Ag (l':= [.d (.sl 13 (v.evs.map Ev.c)), .d (.sl 4 (v.tups.map Tp.c))]) R R R R Bu R lb (by kernel_rfl))<|za R R<|zn<|zt<|?_
 exact Bl R (RV.cells R R R Au lb R) (RV.tmp R R) (r2v ((Mx hreg c30).trans (Ar8 c36 c39 c55 c60 c68)))
 refine zi<|zs<|?_
 have hFz:z.fit:=⟨by omega,hFx.tups,hFx.ev⟩
 have hsx:=Anz (x:=z) (by omega) (by omega)
 refine C3 9 [7001,18] (by kernel_rfl) (by kernel_rfl) (by kernel_rfl) (by kernel_rfl) (by decide)<|yp (Ae (s':= .d (.agg (Vo.c d))) (Ac (Ad R R Au R lb)) (by kernel_rfl))<|ym R R<|ym R R<|ym R R<|yp (Ae (s':= .d (dI (l - f:Nat))) (Di R R R (by omega) (by omega)) (sI (by omega)))<|?_
 refine yp (Ae (s':= .d (.agg (Vo.c z))) (Ac (Ad R R Au R lb)) (by kernel_rfl))<|ChK.cons R (CStep.call R (Gp _ (by assumption)) R)<|ChK.cons R (CStep.callS R (Tw d f (l - f) z hsd hsx (by omega)) R (Ft (by kernel_rfl)))<|ChK.cons R (CStep.allocN 18 (l:= [.d (.v (.slice none 0 0)), .d (.v (.slice none 0 0))]) R Ba R R)<|?_
 refine ChK.nil ⟨by kernel_rfl, ?_⟩
 refine XL.step R (Ag (l':= [.own 7001, .d (.sl 4 ((A8 d f (l - f) z).tups.map Tp.c))]) R R R R Bu R lb (by kernel_rfl))<|zn<|zs<|zr<|zp (Ab R R A1)<|zp (Aa R R Br R R)<|zp (Ce R R R Tryz.underlying22)<|zp (A5 R R R)<|zm R R<|?_
 refine XL.dec 86 R (fun g86=> ?_) (fun g86=> ?_)
 refine zk 4 R<|zq R R R<|zn<|An (by kernel_rfl) R<|zr<|zp (Ae (s':= .d (.agg [.v (.slice none 0 0), .v (.slice none 0 0)])) (Ac (Be R Cg Ba R)) (by kernel_rfl))<|XL.step R (Ag (l':= [.d (.v (.slice none 0 0)), .d (.v (.slice none 0 0))]) R R R R Bu R lb (by kernel_rfl))<|za R R<|zn<|zt<|?_
 exact Bl R (RV.sub (RV.cells R R R Au lb R) (.agg (.cons (.nil 13) (.cons (.nil 4) (.nil))))) (RV.tmp R R) (r2v ((Mx hreg c30).trans (Apc c36 c39 c55 c60 c68 (by omega))))
 refine zp (Ab R R B3)<|zp (Aa R R B0 R R)<|XL.len R R R Tryz.underlying23 fun hl89=>zp (A5 R R R)<|zq R R R<|zn<|?_
 refine zd R (fun c91=> ?_) (fun c91=> ?_)
 refine zr<|zp (Ae (s':= .d (.agg [.v (.slice none 0 0), .v (.slice none 0 0)])) (Ac (Be R Cg Ba R)) (by kernel_rfl))<|XL.step R (Ag (l':= [.d (.v (.slice none 0 0)), .d (.v (.slice none 0 0))]) R R R R Bu R lb (by kernel_rfl))<|za R R<|zn<|zt<|?_
 exact Bl R (RV.sub (RV.cells R R R Au lb R) (.agg (.cons (.nil 13) (.cons (.nil 4) (.nil))))) (RV.tmp R R) (r2v ((Mx hreg c30).trans (Apc c36 c39 c55 c60 c68 (by omega))))
 refine zi<|zs<|?_
 have hfe:=Qe (f:=f) (n:=l - f) hFd.ev hFx.ev
 refine Af (by kernel_rfl)<|zp (Ab R R A1)<|zp (Aa R R Br R R)<|zm R R<|zp (Di R R R (by omega) (by omega))<|?_
 refine XL.inlM 900001 [(9, .ptr 9 0 0),(10, .ptr 10 0 0),(11, .d (dI 0)),(13, .d (dI (f:Nat))),(18, .ptr 18 0 0)] (mkF [(9, .ptr 9 0 0),(10, .ptr 10 0 0),(11, .d (dI 0)),(13, .d (dI (f:Nat))),(18, .ptr 18 0 0)]) (mkH [(9, .box ((Vo.c z).map S.d)),(10, .box [.d (.v (.slice none 0 0)), .d (.v (.slice none 0 0))]),(18, .box [.own 7001, .d (.sl 4 ((A8 d f (l - f) z).tups.map Tp.c))]),(7001, .row 60 13 ((Dd ((A8 d f (l - f) z).evs) (((f:Nat) - 1))).map Ev.c))]) R R .d R5 Tryz.func89 R R lb (by simp only [List.forall_mem_cons];exact ⟨⟨Nat.le_of_ble_eq_true rfl,rfl⟩,⟨⟨Nat.le_of_ble_eq_true rfl,rfl⟩,⟨⟨Nat.le_of_ble_eq_true rfl,rfl⟩,⟨⟨Nat.le_of_ble_eq_true rfl,rfl⟩,⟨⟨Nat.le_of_ble_eq_true rfl,rfl⟩,fun p hp=>(by cases hp)⟩⟩⟩⟩⟩) ?_ (fun u1=> ?_)
 refine zn<|zs<|?_
 have hfe2:=O1 hfe ((f:Nat) - 1)
 have hsl:=O0 ((A8 d f (l - f) z).evs) ((f:Nat) - 1)
 refine Af (by kernel_rfl)<|zp (Ab R R A1)<|zp (Aa R R Br R R)<|zm R R<|zp (Ab R R A1)<|zp (Aa R R Br R R)<|XL.len R R R Tryz.underlying22 fun hl103=>zp (Ak R R R (by omega) (by omega))<|zp (Di R R R (by omega) (by omega))<|?_
 refine XL.inlM 900002 [(10, .ptr 10 0 0),(11, .d (dI 0)),(18, .ptr 18 0 0)] (mkF [(10, .ptr 10 0 0),(11, .d (dI 0)),(18, .ptr 18 0 0)]) (mkH [(10, .box [.d (.v (.slice none 0 0)), .d (.v (.slice none 0 0))]),(18, .box [.own 7001, .d (.sl 4 ((A8 d f (l - f) z).tups.map Tp.c))]),(7001, .row 60 13 ((Dd (Dd ((A8 d f (l - f) z).evs) (((f:Nat) - 1))) (((f:Nat)+z.evs.length - 1))).map Ev.c))]) R R .d R5 Tryz.func89 R R lb (by simp only [List.forall_mem_cons];exact ⟨⟨Nat.le_of_ble_eq_true rfl,rfl⟩,⟨⟨Nat.le_of_ble_eq_true rfl,rfl⟩,⟨⟨Nat.le_of_ble_eq_true rfl,rfl⟩,fun p hp=>(by cases hp)⟩⟩⟩) ?_ (fun u2=> ?_)
 refine zn<|zs<|?_
 have hpf:=Aj8 (f:=f) (l:=l) hFd hFx (by omega)
 refine Af (by kernel_rfl)<|XL.freeze (i:=7001) R<|zp (Ae (s':= .d (.agg (Vo.c (Qh d f l z)))) (Ac (Ad R R Au R lb)) (by kernel_rfl))<|XL.call1 R R (Gp _ (by assumption)) R<|XL.step R (Ag (l':= [.d (.sl 13 ((Qh d f l z).evs.map Ev.c)), .d (.sl 4 ((Qh d f l z).tups.map Tp.c))]) R R R R Bu R lb (by kernel_rfl))<|za R R<|zn<|zt<|?_
 exact Bl R (RV.cells R R R Au lb R) (RV.tmp R R) (r2v ((Mx hreg c30).trans (Apb c36 c39 c55 c60 c68 (by omega))))
 refine zs<|zr<|zm R R<|zp (Aq R R R)<|zm R R<|?_
 refine XL.dec 8 R (fun g8t=> ?_) (fun g8t=> ?_)
 refine zk 5 R<|zq R R R<|zn<|An (by kernel_rfl) R<|zt<|?_
 exact Rh (l:= [(10, .ptr 10 0 0),(11, .d (dI 0)),(18, .ptr 18 0 0)]) (by kernel_rfl) (rs0 R R) (fz ⟨sr,sr,sr,trivial⟩) (gz ⟨R,R,Us (Ng (.inl g8t)).symm,trivial⟩)
 refine zm R R<|zp (Ak R R R (by omega) (by omega))<|zp (A3 R (by conv=>lhs;whnf))<|?_
 refine zp (Ce R R R Tryz.underlying22)<|zp (E4 R R R)<|zq R R R<|zn<|?_
 refine zd R (fun c14t=> ?_) (fun c14t=> ?_)
 refine zt<|?_
 exact Rh (l:= [(10, .ptr 10 0 0),(11, .d (dI 0)),(18, .ptr 18 0 0)]) (by kernel_rfl) (rs0 R R) (fz ⟨sr,sr,sr,trivial⟩) (gz ⟨R,R,Us (Ng (.inr (by omega))).symm,trivial⟩)
 refine zi<|zs<|?_
 obtain ⟨m,hm⟩:∃m:Nat,(((f:Nat)+z.evs.length - 1):Int)=m:=⟨(((f:Nat)+z.evs.length - 1):Int).toNat,by omega⟩
 obtain ⟨x,hx⟩:∃x,(Dd ((A8 d f (l - f) z).evs) (((f:Nat) - 1)))[m]? =some x:=Ap (by omega)
 obtain ⟨y,hy⟩:∃y,(Dd ((A8 d f (l - f) z).evs) (((f:Nat) - 1)))[m+1]? =some y:=Ap (by omega)
 have hxf:x.fit:=hfe2 x (List.mem_of_getElem? hx)
 have hxh:=hxf.1
 refine Af (by kernel_rfl)<|zp (A3 R (by conv=>lhs;whnf))<|?_
 refine zm R R<|zp (A3 R (by conv=>lhs;whnf))<|?_
 refine zm R R<|zp (Dj R R R (hm) R B7 (by omega))<|zp (Ab R R Bi)<|zp (Ff R R Cx R (Cn hx) R)<|XL.callS R R ((In _ (by omega)).lab 7002) R<|XL.toS (i:=7001) R<|zp (Et R R R (hm) R B7 (X4 (by omega)))<|zp (Ab R R Bi)<|XL.step R (Px R R R (Qc hx) R Ly R lb)<|znr<|zp (A3 R (by conv=>lhs;whnf))<|?_
 refine zm R R<|zp (Et R R R (hm) R B7 (Ik (by omega)))<|zp (Ab R R Bi)<|zp (E8 R R Cx R (O4 hx) R)<|zp (Ce R R R Tryz.underlying48)<|zm R R<|zn<|Ai<|?_
 refine Av (α:=Nat) (fun j=>j≤x.heads.length) (fun j=>mkF [(0, .own 7001),(1, .d (dI (((f:Nat)+z.evs.length) - 1))),(30, .d (dI x.heads.length)),(31, .d (dI (j:Nat)))]) (fun j=>mkH [(10, .box [.d (.v (.slice none 0 0)), .d (.v (.slice none 0 0))]),(18, .box [.own 7001, .d (.sl 4 ((A8 d f (l - f) z).tups.map Tp.c))]),(7001, .rowS 60 13 ((Fe (Dd ((A8 d f (l - f) z).evs) (((f:Nat) - 1)))).set m (evO x 7002))),(7002, .row 91 5 ((Hk (Gk y) x.heads j).map Hd.c)),(900002, .ghost u2 [(10, .ptr 10 0 0),(11, .d (dI 0)),(18, .ptr 18 0 0)])]) (fun j=>x.heads.length - j) (0) (Nat.zero_le _) ?_ ?_ ?_
 exact fz ⟨sr,sr,sr,sr,trivial⟩
 exact gz ⟨R,R,R,by rw [←L5];rfl,rfl,trivial⟩
 intro j hk0t
 refine zr<|zp (Aq R R R)<|zn<|zs<|?_
 refine zd R (fun c32t=> ?_) (fun c32t=> ?_)
 have hjl:j<x.heads.length:=by omega
 obtain ⟨hd,hh⟩:=Ap hjl
 have hml:=J9 (Gk y) x.heads j
 have hg:=Nn (f:=Gk y) hh
 refine zi<|zs<|Ai<|zr<|zm R R<|za R R<|znr<|zp (A3 R (by conv=>lhs;whnf))<|?_
 refine zm R R<|zp (Et R R R (hm) R B7 (Ik (by omega)))<|zp (Ab R R Bi)<|zp (E8 R R Cx R (O4 hx) R)<|zm R R<|zp (Dj R R R (R) R Gd (by rw [J9];omega))<|XL.step R (A0 2005 (l:= [.d (.v (.pointer none))]) R Xf (by kernel_rfl))<|XL.step R (Ag (l':= [.ptr 7002 _ _]) R R R R Ahd R lb R)<|zn<|?_
 refine Xi (i:=7001) (l':=(Fe (Dd ((A8 d f (l - f) z).evs) (((f:Nat) - 1)))).set m (evO x 7002)) R (Vr (by decide))<|?_
 by_cases q45:hd.tied=true
 by_cases q53t:(y.kind:Int)=(1:Int)
 refine C3 24 [] (by kernel_rfl) (by kernel_rfl) (by kernel_rfl) (by kernel_rfl) (by decide)<|yp (Aa R R Hq R R)<|yp (Aa R R Hq R R)<|yp (Fk R R)<|yp (Ab R R Dw)<|yp (Yi (Ff R R Jv R (Cn hg) R) q45)<|ym R R<|yp (A3 R (by conv=>lhs;whnf))<|?_
 refine ym R R<|yp (Ak R R R (by omega) (by omega))<|yp (Et R R R (show _=((m+1:Nat):Int) by omega) rfl B7 (Ik (by omega)))<|yp (Ab R R Bn)<|yp (E8 R R Ah R (J7 hy) R)<|yp (Dv (Az R R R) (q53t))<|yp (A7 R R (by conv=>lhs;whnf))<|?_
 refine ym R R<|yp (A3 R (by conv=>lhs;whnf))<|?_
 refine ym R R<|yp (Ak R R R (by omega) (by omega))<|yp (Et R R R (show _=((m+1:Nat):Int) by omega) rfl B7 (Ik (by omega)))<|yp (Ab R R Bi)<|yp (E8 R R Cx R (J7 hy) R)<|yp (Afy R)<|?_
 refine ChK.cons R (CStep.lend R (M8 y.heads 135 [.pt [.pt (Hd.c hd)]] (fun o=>decide (o.p=hd.p)) (fun o _=>Aeb o hd)) (.cons (.d _) (.cons (.fn .nil (.cons (.pbox R R (.cons (.prow R (Cn hg)) .nil)) .nil)) .nil)))<|yp (A7 R R (by conv=>lhs;whnf))<|?_
 refine ChK.nil ⟨by kernel_rfl, ?_⟩
 refine zp (Fk R R)<|zp (Ab R R Dw)<|XL.step R (Dl R R R (Cn hg) R R P3 R lb)<|zn<|Af (by kernel_rfl)<|zp (Ak R R R (by omega) (by omega))<|zm R R<|zn<|?_
 exact Al (j+1) (by omega) (by omega) (fz ⟨sr,sr,sr,sr,trivial⟩) (gz ⟨R,R,R,Ky (a:=Gk y hd) (by rw [Ahp q45 q53t];rfl) (H0 hh),R,trivial⟩)
 refine C3 24 [] (by kernel_rfl) (by kernel_rfl) (by kernel_rfl) (by kernel_rfl) (by decide)<|yp (Aa R R Hq R R)<|yp (Aa R R Hq R R)<|yp (Fk R R)<|yp (Ab R R Dw)<|yp (Yi (Ff R R Jv R (Cn hg) R) q45)<|ym R R<|yp (A3 R (by conv=>lhs;whnf))<|?_
 refine ym R R<|yp (Ak R R R (by omega) (by omega))<|yp (Et R R R (show _=((m+1:Nat):Int) by omega) rfl B7 (Ik (by omega)))<|yp (Ab R R Bn)<|yp (E8 R R Ah R (J7 hy) R)<|yp (G4 (Az R R R) (q53t))<|yp (A7 R R (by conv=>lhs;whnf))<|?_
 refine ym R R<|ChK.skip R<|ChK.skip R<|ChK.skip R<|ChK.skip R<|ChK.skip R<|ChK.skip R<|ChK.skip R<|ChK.skip R<|yp (A7 R R (by conv=>lhs;whnf))<|?_
 refine ChK.nil ⟨by kernel_rfl, ?_⟩
 refine zp (Fk R R)<|zp (Ab R R Dw)<|XL.step R (Dl R R R (Cn hg) R R P3 R lb)<|zn<|Af (by kernel_rfl)<|zp (Ak R R R (by omega) (by omega))<|zm R R<|zn<|?_
 exact Al (j+1) (by omega) (by omega) (fz ⟨sr,sr,sr,sr,trivial⟩) (gz ⟨R,R,R,Ky (a:=Gk y hd) (by rw [Aho q53t];rfl) (H0 hh),R,trivial⟩)
 refine C3 24 [] (by kernel_rfl) (by kernel_rfl) (by kernel_rfl) (by kernel_rfl) (by decide)<|yp (Aa R R Hq R R)<|yp (Aa R R Hq R R)<|yp (Fk R R)<|yp (Ab R R Dw)<|yp (Aki (Ff R R Jv R (Cn hg) R) q45)<|ym R R<|ChK.skip R<|ChK.skip R<|ChK.skip R<|ChK.skip R<|ChK.skip R<|ChK.skip R<|ChK.skip R<|?_
 refine yp (A7 R R (by conv=>lhs;whnf))<|?_
 refine ym R R<|ChK.skip R<|ChK.skip R<|ChK.skip R<|ChK.skip R<|ChK.skip R<|ChK.skip R<|ChK.skip R<|ChK.skip R<|yp (A7 R R (by conv=>lhs;whnf))<|?_
 refine ChK.nil ⟨by kernel_rfl, ?_⟩
 refine zp (Fk R R)<|zp (Ab R R Dw)<|XL.step R (Dl R R R (Cn hg) R R P3 R lb)<|zn<|Af (by kernel_rfl)<|zp (Ak R R R (by omega) (by omega))<|zm R R<|zn<|?_
 exact Al (j+1) (by omega) (by omega) (fz ⟨sr,sr,sr,sr,trivial⟩) (gz ⟨R,R,R,Ky (a:=Gk y hd) (by rw [Ahn q45];rfl) (H0 hh),R,trivial⟩)
 have he:=No (f:=Gk y) (l:=x.heads) (k:=j) (by omega)
 refine U9 (i:=7002) R<|Ag4 (i:=7001) (l:=(Dd (Dd ((A8 d f (l - f) z).evs) (((f:Nat) - 1))) (((f:Nat)+z.evs.length - 1))).map Ev.c) R (by rw [he,hm,Vm hx hy];exact Ts)<|At<|?_
 exact Aew (l:= [(10, .ptr 10 0 0),(11, .d (dI 0)),(18, .ptr 18 0 0)]) (by kernel_rfl) (rs0 R R) (fz ⟨sr,sr,sr,trivial⟩) (gz ⟨R,R,R,trivial⟩)
 refine zs<|zr<|zm R R<|zp (Aq R R R)<|zm R R<|?_
 refine XL.dec 8 R (fun g8s=> ?_) (fun g8s=> ?_)
 refine zk 5 R<|zq R R R<|zn<|An (by kernel_rfl) R<|zt<|?_
 exact Rh (l:= [(9, .ptr 9 0 0),(10, .ptr 10 0 0),(11, .d (dI 0)),(13, .d (dI (f:Nat))),(18, .ptr 18 0 0)]) (by kernel_rfl) (rs0 R R) (fz ⟨sr,sr,sr,sr,sr,trivial⟩) (gz ⟨R,R,R,Us (Ng (.inl g8s)).symm,trivial⟩)
 refine zm R R<|zp (Ak R R R (by omega) (by omega))<|zp (A3 R (by conv=>lhs;whnf))<|?_
 refine zp (Ce R R R Tryz.underlying22)<|zp (E4 R R R)<|zq R R R<|zn<|?_
 refine zd R (fun c14s=> ?_) (fun c14s=> ?_)
 refine zt<|?_
 exact Rh (l:= [(9, .ptr 9 0 0),(10, .ptr 10 0 0),(11, .d (dI 0)),(13, .d (dI (f:Nat))),(18, .ptr 18 0 0)]) (by kernel_rfl) (rs0 R R) (fz ⟨sr,sr,sr,sr,sr,trivial⟩) (gz ⟨R,R,R,Us (Ng (.inr (by omega))).symm,trivial⟩)
 refine zi<|zs<|?_
 obtain ⟨m,hm⟩:∃m:Nat,(((f:Nat) - 1):Int)=m:=⟨(((f:Nat) - 1):Int).toNat,by omega⟩
 obtain ⟨x,hx⟩:∃x,((A8 d f (l - f) z).evs)[m]? =some x:=Ap (by omega)
 obtain ⟨y,hy⟩:∃y,((A8 d f (l - f) z).evs)[m+1]? =some y:=Ap (by omega)
 have hxf:x.fit:=hfe x (List.mem_of_getElem? hx)
 have hxh:=hxf.1
 refine Af (by kernel_rfl)<|zp (A3 R (by conv=>lhs;whnf))<|?_
 refine zm R R<|zp (A3 R (by conv=>lhs;whnf))<|?_
 refine zm R R<|zp (Dj R R R (hm) R B7 (by omega))<|zp (Ab R R Bi)<|zp (Ff R R Cx R (Cn hx) R)<|XL.callS R R ((In _ (by omega)).lab 7003) R<|XL.toS (i:=7001) R<|zp (Et R R R (hm) R B7 (X4 (by omega)))<|zp (Ab R R Bi)<|XL.step R (Px R R R (Qc hx) R Ly R lb)<|znr<|zp (A3 R (by conv=>lhs;whnf))<|?_
 refine zm R R<|zp (Et R R R (hm) R B7 (Ik (by omega)))<|zp (Ab R R Bi)<|zp (E8 R R Cx R (O4 hx) R)<|zp (Ce R R R Tryz.underlying48)<|zm R R<|zn<|Ai<|?_
 refine Av (α:=Nat) (fun j=>j≤x.heads.length) (fun j=>mkF [(0, .own 7001),(1, .d (dI ((f:Nat) - 1))),(30, .d (dI x.heads.length)),(31, .d (dI (j:Nat)))]) (fun j=>mkH [(9, .box ((Vo.c z).map S.d)),(10, .box [.d (.v (.slice none 0 0)), .d (.v (.slice none 0 0))]),(18, .box [.own 7001, .d (.sl 4 ((A8 d f (l - f) z).tups.map Tp.c))]),(7001, .rowS 60 13 ((Fe ((A8 d f (l - f) z).evs)).set m (evO x 7003))),(7003, .row 91 5 ((Hk (Gk y) x.heads j).map Hd.c)),(900001, .ghost u1 [(9, .ptr 9 0 0),(10, .ptr 10 0 0),(11, .d (dI 0)),(13, .d (dI (f:Nat))),(18, .ptr 18 0 0)])]) (fun j=>x.heads.length - j) (0) (Nat.zero_le _) ?_ ?_ ?_
 exact fz ⟨sr,sr,sr,sr,trivial⟩
 exact gz ⟨R,R,R,R,by rw [←L5];rfl,rfl,trivial⟩
 intro j hk0s
 refine zr<|zp (Aq R R R)<|zn<|zs<|?_
 refine zd R (fun c32s=> ?_) (fun c32s=> ?_)
 have hjl:j<x.heads.length:=by omega
 obtain ⟨hd,hh⟩:=Ap hjl
 have hml:=J9 (Gk y) x.heads j
 have hg:=Nn (f:=Gk y) hh
 refine zi<|zs<|Ai<|zr<|zm R R<|za R R<|znr<|zp (A3 R (by conv=>lhs;whnf))<|?_
 refine zm R R<|zp (Et R R R (hm) R B7 (Ik (by omega)))<|zp (Ab R R Bi)<|zp (E8 R R Cx R (O4 hx) R)<|zm R R<|zp (Dj R R R (R) R Gd (by rw [J9];omega))<|XL.step R (A0 2005 (l:= [.d (.v (.pointer none))]) R Xf (by kernel_rfl))<|XL.step R (Ag (l':= [.ptr 7003 _ _]) R R R R Ahd R lb R)<|zn<|?_
 refine Xi (i:=7001) (l':=(Fe ((A8 d f (l - f) z).evs)).set m (evO x 7003)) R (Vr (by decide))<|?_
 by_cases q45:hd.tied=true
 by_cases q53s:(y.kind:Int)=(1:Int)
 refine C3 24 [] (by kernel_rfl) (by kernel_rfl) (by kernel_rfl) (by kernel_rfl) (by decide)<|yp (Aa R R Hq R R)<|yp (Aa R R Hq R R)<|yp (Fk R R)<|yp (Ab R R Dw)<|yp (Yi (Ff R R Jv R (Cn hg) R) q45)<|ym R R<|yp (A3 R (by conv=>lhs;whnf))<|?_
 refine ym R R<|yp (Ak R R R (by omega) (by omega))<|yp (Et R R R (show _=((m+1:Nat):Int) by omega) rfl B7 (Ik (by omega)))<|yp (Ab R R Bn)<|yp (E8 R R Ah R (J7 hy) R)<|yp (Dv (Az R R R) (q53s))<|yp (A7 R R (by conv=>lhs;whnf))<|?_
 refine ym R R<|yp (A3 R (by conv=>lhs;whnf))<|?_
 refine ym R R<|yp (Ak R R R (by omega) (by omega))<|yp (Et R R R (show _=((m+1:Nat):Int) by omega) rfl B7 (Ik (by omega)))<|yp (Ab R R Bi)<|yp (E8 R R Cx R (J7 hy) R)<|yp (Afy R)<|?_
 refine ChK.cons R (CStep.lend R (M8 y.heads 135 [.pt [.pt (Hd.c hd)]] (fun o=>decide (o.p=hd.p)) (fun o _=>Aeb o hd)) (.cons (.d _) (.cons (.fn .nil (.cons (.pbox R R (.cons (.prow R (Cn hg)) .nil)) .nil)) .nil)))<|yp (A7 R R (by conv=>lhs;whnf))<|?_
 refine ChK.nil ⟨by kernel_rfl, ?_⟩
 refine zp (Fk R R)<|zp (Ab R R Dw)<|XL.step R (Dl R R R (Cn hg) R R P3 R lb)<|zn<|Af (by kernel_rfl)<|zp (Ak R R R (by omega) (by omega))<|zm R R<|zn<|?_
 exact Al (j+1) (by omega) (by omega) (fz ⟨sr,sr,sr,sr,trivial⟩) (gz ⟨R,R,R,R,Ky (a:=Gk y hd) (by rw [Ahp q45 q53s];rfl) (H0 hh),R,trivial⟩)
 refine C3 24 [] (by kernel_rfl) (by kernel_rfl) (by kernel_rfl) (by kernel_rfl) (by decide)<|yp (Aa R R Hq R R)<|yp (Aa R R Hq R R)<|yp (Fk R R)<|yp (Ab R R Dw)<|yp (Yi (Ff R R Jv R (Cn hg) R) q45)<|ym R R<|yp (A3 R (by conv=>lhs;whnf))<|?_
 refine ym R R<|yp (Ak R R R (by omega) (by omega))<|yp (Et R R R (show _=((m+1:Nat):Int) by omega) rfl B7 (Ik (by omega)))<|yp (Ab R R Bn)<|yp (E8 R R Ah R (J7 hy) R)<|yp (G4 (Az R R R) (q53s))<|yp (A7 R R (by conv=>lhs;whnf))<|?_
 refine ym R R<|ChK.skip R<|ChK.skip R<|ChK.skip R<|ChK.skip R<|ChK.skip R<|ChK.skip R<|ChK.skip R<|ChK.skip R<|yp (A7 R R (by conv=>lhs;whnf))<|?_
 refine ChK.nil ⟨by kernel_rfl, ?_⟩
 refine zp (Fk R R)<|zp (Ab R R Dw)<|XL.step R (Dl R R R (Cn hg) R R P3 R lb)<|zn<|Af (by kernel_rfl)<|zp (Ak R R R (by omega) (by omega))<|zm R R<|zn<|?_
 exact Al (j+1) (by omega) (by omega) (fz ⟨sr,sr,sr,sr,trivial⟩) (gz ⟨R,R,R,R,Ky (a:=Gk y hd) (by rw [Aho q53s];rfl) (H0 hh),R,trivial⟩)
 refine C3 24 [] (by kernel_rfl) (by kernel_rfl) (by kernel_rfl) (by kernel_rfl) (by decide)<|yp (Aa R R Hq R R)<|yp (Aa R R Hq R R)<|yp (Fk R R)<|yp (Ab R R Dw)<|yp (Aki (Ff R R Jv R (Cn hg) R) q45)<|ym R R<|ChK.skip R<|ChK.skip R<|ChK.skip R<|ChK.skip R<|ChK.skip R<|ChK.skip R<|ChK.skip R<|?_
 refine yp (A7 R R (by conv=>lhs;whnf))<|?_
 refine ym R R<|ChK.skip R<|ChK.skip R<|ChK.skip R<|ChK.skip R<|ChK.skip R<|ChK.skip R<|ChK.skip R<|ChK.skip R<|yp (A7 R R (by conv=>lhs;whnf))<|?_
 refine ChK.nil ⟨by kernel_rfl, ?_⟩
 refine zp (Fk R R)<|zp (Ab R R Dw)<|XL.step R (Dl R R R (Cn hg) R R P3 R lb)<|zn<|Af (by kernel_rfl)<|zp (Ak R R R (by omega) (by omega))<|zm R R<|zn<|?_
 exact Al (j+1) (by omega) (by omega) (fz ⟨sr,sr,sr,sr,trivial⟩) (gz ⟨R,R,R,R,Ky (a:=Gk y hd) (by rw [Ahn q45];rfl) (H0 hh),R,trivial⟩)
 have he:=No (f:=Gk y) (l:=x.heads) (k:=j) (by omega)
 refine U9 (i:=7003) R<|Ag4 (i:=7001) (l:=(Dd ((A8 d f (l - f) z).evs) (((f:Nat) - 1))).map Ev.c) R (by rw [he,hm,Vm hx hy];exact Ts)<|At<|?_
 exact Aew (l:= [(9, .ptr 9 0 0),(10, .ptr 10 0 0),(11, .d (dI 0)),(13, .d (dI (f:Nat))),(18, .ptr 18 0 0)]) (by kernel_rfl) (rs0 R R) (fz ⟨sr,sr,sr,sr,sr,trivial⟩) (gz ⟨R,R,R,R,trivial⟩)
end Go.Proofs.YtcihalbakenleaaGreat
namespace Go.Proofs.YtcihalbakenleaaGreat
open Go.RowKit
def Arg (y:Ev) (h:Hd):Hd:=⟨h.p,h.tied && Jg y.heads h.p,h.sh⟩
def joinE (x y:Ev):Ev:=x.reh (x.heads.map (Arg y))
def partF (x:Vo):Int:=if 128<x.evs.length then 9 else if D7 2 0 x.evs≠0 then D7 2 0 x.evs else if Cr x.tups (wrS x.evs)≠0 then Cr x.tups (wrS x.evs) else if Fc x.tups (wrS x.evs)≠0 then 21 else 0
end Go.Proofs.YtcihalbakenleaaGreat
namespace Go.Proofs.YtcihalbakenleaaGreat
open Go.RowKit
theorem Aj5 {d z:Vo} {f l:Nat} (h:f≤l):(A8 d f (l - f) z).evs=d.evs.take f++z.evs++d.evs.drop l:=by
 show d.evs.take f++z.evs++d.evs.drop (f+(l - f))=_
 rw [show f+(l - f)=l by omega]
end Go.Proofs.YtcihalbakenleaaGreat
namespace Go.Proofs.YtcihalbakenleaaGreat
theorem Ali {v:Vo} {p:Pl} {t:Int} (hc:p.chk v=0) (h:(Aj v p t).2=0):((atE v p.len t≠0∨(atV v p.len t).2=t)∧Aj v p t=(v,0))∨
  ∃(k:Nat) (a w:Int) (x:Ev),v.evs[k]? =some x∧(ckL v p.len)[k]? =some w∧a=tot ((ckL v p.len).take k)∧(∀s∈v.tups,¬s.has k)∧p.m.splitE (p.off+a) (p.off+t)=0∧p.m.splitE (p.off+t) (p.off+(a+w))=0∧
   (A8 v k 1 ⟨C2 p t a w x, []⟩).evs.length≤128∧t<a+w∧Aj v p t=(A8 v k 1 ⟨C2 p t a w x, []⟩,0):=by
 obtain ⟨k,a,hat,ha0,ha1,hak⟩:=Rp v p.len t
 obtain ⟨hme,hpb,hck⟩:=Ds hc
 obtain ⟨ws,ls,hT⟩:=Rn hck
 by_cases c:atE v p.len t≠0∨a=t
 ·left
  exact ⟨by rw [hat];exact c,N2 hat c⟩
 ·right
  have he0:atE v p.len t=0:=by omega
  obtain ⟨hk,hak2⟩:=hak he0
  have hcl:=Io hck
  obtain ⟨w,hw⟩:∃w,(ckL v p.len)[k]? =some w:=Ap hk
  obtain ⟨x,hx⟩:∃x,v.evs[k]? =some x:=Ap (by omega)
  have hd:=Jl hat c hx hw
  unfold Ko at hd
  split at hd
  ·rw [hd] at h;exact absurd h (by decide)
  ·rename_i c1
   split at hd
   ·rename_i c2;rw [hd] at h;exact absurd h c2
   ·rename_i c2
    split at hd
    ·rename_i c3;rw [hd] at h;exact absurd h c3
    ·rename_i c3
     split at hd
     ·rw [hd] at h;exact absurd h (by decide)
     ·rename_i c4
      rw [Ma hT] at c1
      have hrg:=Abp he0
      have hat2:=hat
      rw [Asq he0] at hat2
      obtain ⟨w2,hw2,_,htw⟩:=Aqt hck (by omega) hrg.2.1 hrg.2.2 hat2
      rw [hw] at hw2;cases hw2
      exact ⟨k,a,w,x,hx,hw,hak2,Nu (by omega),by omega,by omega,by omega,htw.1,hd⟩
def Ons (ls:List Int) (t:Int):Prop:=∃k,k≤ls.length∧tot (ls.take k)=t
theorem Akl {v:Vo} {p:Pl} {t s:Int} (hc:p.chk v=0) (h:(Aj v p t).2=0) (ho:Ons (ckL v p.len) s):Ons (ckL (Aj v p t).1 p.len) s:=by
 obtain ⟨hme,hpb,hck⟩:=Ds hc
 rcases Ali hc h with ⟨_,e⟩|⟨k,a,w,x,hk,hw,ha,hd,h1,h2,hl,_,e⟩
 ·rw [e];exact ho
 ·rw [e]
  obtain ⟨_,e2,_⟩:=Zb hck hk hw hd h1 h2 hl
  show Ons (ckL (A8 v k 1 ⟨C2 p t a w x, []⟩) p.len) s
  rw [e2]
  have hlenN:(C2 p t a w x).length≤128:=by
   have:(A8 v k 1 ⟨C2 p t a w x, []⟩).evs.length=v.evs.length - 1+(C2 p t a w x).length:=Sm (by have:=(List.getElem?_eq_some_iff.1 hk).1;omega)
   omega
  obtain ⟨_,hs⟩:=U5 ((Hv hck).1 x (List.mem_of_getElem? hk)) h1 h2 hlenN
  have hkl:=(List.getElem?_eq_some_iff.1 hw).1
  obtain ⟨j,hj,hjt⟩:=ho
  by_cases c:j≤k
  ·refine ⟨j,by rw [List.length_append,List.length_append,List.length_take];omega, ?_⟩
   rw [List.append_assoc,List.take_append_of_le_length (by rw [List.length_take];omega),List.take_take,Nat.min_eq_left c];exact hjt
  ·have hq:((ckL v p.len).take k++wrS (C2 p t a w x)).length=k+(C2 p t a w x).length:=by rw [List.length_append,List.length_take,Gc];omega
   refine ⟨k+(C2 p t a w x).length+(j - (k+1)),by rw [List.length_append,hq,List.length_drop];omega, ?_⟩
   rw [List.take_append,hq,show k+(C2 p t a w x).length+(j - (k+1)) - (k+(C2 p t a w x).length)=j - (k+1) by omega,List.take_of_length_le (by omega),Hn,Hn,hs, ←hjt]
   have e3:tot ((ckL v p.len).take j)=tot ((ckL v p.len).take (k+1))+tot (((ckL v p.len).take j).drop (k+1)):=Mf _ _ _ (by omega)
   rw [e3,Bp hw,H7,List.drop_take]
theorem Aep {v:Vo} {p:Pl} {t:Int} (hc:p.chk v=0) (hn:v.evs≠ []) (h0:0≤t) (h1:t≤p.len) (h:(Aj v p t).2=0):Ons (ckL (Aj v p t).1 p.len) t:=by
 obtain ⟨hme,hpb,hck⟩:=Ds hc
 have hcl:=Io hck
 rcases Ali hc h with ⟨c,e⟩|⟨k,a,w,x,hk,hw,ha,hd,q1,q2,hl,_,e⟩
 ·rw [e]
  show Ons (ckL v p.len) t
  by_cases ht:t=p.len
  ·exact ⟨(ckL v p.len).length,Nat.le_refl _,by rw [List.take_length,Zh hck hn,ht]⟩
  ·obtain ⟨_,_,_,hA4⟩:=Aqs v p.len t
   have he:=hA4 hck (fun k=>hn (List.eq_nil_of_length_eq_zero k)) (by omega)
   obtain ⟨k,a,hat,_,_,hak⟩:=Rp v p.len t
   obtain ⟨k1,k2⟩:=hak he
   rw [hat] at c
   exact ⟨k,by omega,by rw [←k2];exact c.resolve_left (fun k=>k he)⟩
 ·rw [e]
  obtain ⟨_,e2,_⟩:=Zb hck hk hw hd q1 q2 hl
  show Ons (ckL (A8 v k 1 ⟨C2 p t a w x, []⟩) p.len) t
  rw [e2]
  have hkl:=(List.getElem?_eq_some_iff.1 hw).1
  have hxe:=(Hv hck).1 x (List.mem_of_getElem? hk)
  obtain ⟨u1,u2⟩:=Ev.err_unrest hxe
  obtain ⟨r1,r2⟩:=Li q1
  obtain ⟨n1,n2⟩:=Nl (Ev.err_tied u1 u2) (show x.unrest.tiedE.kind≠3 from u2) r2 false
  have hN:wrS (C2 p t a w x)=wrS (Bj x.unrest.tiedE (p.m.split (p.off+a) (p.off+t)) false)++wrS (Bj x.unrest (p.m.split (p.off+t) (p.off+(a+w))) true):=Oe _ _
  have hq:((ckL v p.len).take k++wrS (Bj x.unrest.tiedE (p.m.split (p.off+a) (p.off+t)) false)).length=k+(p.m.split (p.off+a) (p.off+t)).length:=by rw [List.length_append,List.length_take,Gc,Ew];omega
  refine ⟨k+(p.m.split (p.off+a) (p.off+t)).length,by rw [List.length_append,List.length_append,hN,List.length_append,Gc,Ew,List.length_take];omega, ?_⟩
  rw [hN, ←List.append_assoc,List.append_assoc ((ckL v p.len).take k++_), ←hq,List.take_left,Hn,n2,r1,ha];omega
theorem Wp {ls:List Int} (hp:∀x∈ls,0<x) {t:Int} (h:Ons ls t):tot (ls.take (Bz (Bm ls) t))=t:=by
 obtain ⟨k,hk,ht⟩:=h
 have hol:=K2 ls
 have e:Bz (Bm ls) t=k:=by
  refine Nat.le_antisymm ?_ ?_
  ·by_cases c:k=ls.length
   ·have:=Kb (Bm ls) t;omega
   ·have h1:=Aid (l:=ls) (k:=k) (by omega)
    have:=(J2 hp h1 (a:=t)).2
    rw [←Nat.not_lt];intro hlt
    have:=this hlt
    omega
  ·rcases Nat.eq_zero_or_pos k with c|c
   ·omega
   ·have h1:=Aid (l:=ls) (k:=k - 1) (by omega)
    have h2:tot (ls.take (k - 1))<t:=by
     obtain ⟨w,hw⟩:∃w,ls[k - 1]? =some w:=Ap (by omega)
     have:=hp w (List.mem_of_getElem? hw)
     rw [←ht,show ls.take k=ls.take (k - 1+1) by rw [show k - 1+1=k by omega],Bp hw,H7];omega
    have:=(J2 hp h1 (a:=t)).1 h2
    omega
 rw [e,ht]
structure RegT (p:Pl) (a b:Int) (d:Vo) (f l:Nat):Prop where
 ta:tot ((ckL d p.len).take f)=a
 tb:tot ((ckL d p.len).take l)=b
theorem RegOk.tot {v:Vo} {p:Pl} {a b:Int} {d:Vo} {f l:Nat} (h:RegOk v p a b d f l):RegT p a b d f l:=by
 have hp:=Ro (Ds h.chk).2.2
 have hr:=h.rng
 have o1:=Aep h.hc h.ne (t:=a) (by omega) (by omega) h.e1
 have o2:=Akl h.c1 h.e2 o1
 have o3:=Aep h.c1 h.n1 (t:=b) (by omega) (by omega) h.e2
 rw [←h.d2] at o2 o3
 exact ⟨by rw [h.fe];exact Wp hp o2,by rw [h.le];exact Wp hp o3⟩
theorem RegOk.flt {v:Vo} {p:Pl} {a b:Int} {d:Vo} {f l:Nat} (h:RegOk v p a b d f l) (hab:a<b):f<l:=by
 have ht:=h.tot
 have h1:=ht.ta
 have h2:=ht.tb
 have h3:=h.fl
 by_cases c:f=l
 ·subst c;omega
 ·omega
theorem RegOk.free {v:Vo} {p:Pl} {a b:Int} {d:Vo} {f l:Nat} (h:RegOk v p a b d f l) (hab:a<b):M9 d.tups f∧M9 d.tups l:=by
 have hf:=h.flt hab
 constructor
 ·intro t ht
  have:=h.no t ht
  unfold Dh at this
  unfold Tp.e
  omega
 ·intro t ht
  have:=h.no t ht
  unfold Dh at this
  unfold Tp.e
  omega
theorem set_same {α:Type} {l:List α} {k:Nat} {x:α} (h:l[k]? =some x):l.set k x=l:=List.ext_getElem? fun j=>by
 by_cases e:k=j
 ·subst e;rw [List.getElem?_set_self (List.getElem?_eq_some_iff.1 h).1,h]
 ·rw [List.getElem?_set_ne e]
end Go.Proofs.YtcihalbakenleaaGreat
namespace Go.Proofs.YtcihalbakenleaaGreat
open Go.RowKit
def mrE:Ev:=⟨0,0,3,⟨0,0⟩, [], [],0,0,0, [],0,0⟩
def mrV:Vo:=⟨[mrE], []⟩
def Ar7 (p:Pl) (a b:Int):Vo:=⟨Apa p.m (p.off+a) (p.off+b), []⟩
def Ast (v:Vo) (p:Pl) (a b:Int):Vo × Int:=if a=0∧b=p.len then (mrV,0) else if p.m.splitE (p.off+a) (p.off+b)≠0 then (⟨[], []⟩,p.m.splitE (p.off+a) (p.off+b)) else Lb v p a b (Ar7 p a b)
def EraS (v:Vo) (p:Pl) (a b:Int):Vo × Int:=if (Eo v p a b).2.2.2≠0 then (⟨[], []⟩,(Eo v p a b).2.2.2) else Ast v p a b
theorem Agt (v:Vo) (p:Pl) (a b:Int):(E7 v p a b).2=(Eo v p a b).2.2.2:=by
 by_cases c:(Eo v p a b).2.2.2≠0
 ·rw [E7,if_pos c]
 ·rw [E7,if_neg c];exact (Decidable.not_not.1 c).symm
end Go.Proofs.YtcihalbakenleaaGreat
namespace Go.Proofs.YtcihalbakenleaaGreat
open Go.RowKit
def JnP (x y:Ev):Prop:=x.kind=1→∀h∈x.heads,h.tied=true→y.kind=1∧Jg y.heads h.p=true
def joinQ (y:Ev) (h:Hd):Bool:= !(h.tied && !(decide (y.kind=1) && Jg y.heads h.p))
instance (x y:Ev):Decidable (JnP x y):=by unfold JnP;exact inferInstance
theorem Arh {x y:Ev} (h:x.kind≠1):JnP x y:=fun k=>absurd k h
theorem Ais {x y:Ev} {k:Nat} {h:Hd} (hx:x.heads[k]? =some h) (hk:x.kind=1) (ht:h.tied=true) (hy:¬(y.kind=1∧Jg y.heads h.p=true)):¬JnP x y:=fun j=>hy (j hk h (List.mem_of_getElem? hx) ht)
theorem Ap2 {x y:Ev} (h:∀(j:Nat) o,j<x.heads.length→x.heads[j]? =some o→o.tied=true→y.kind=1∧Jg y.heads o.p=true):JnP x y:=fun _ o ho ht=>by
 obtain ⟨j,hj⟩:=List.getElem?_of_mem ho
 exact h j o (List.getElem?_eq_some_iff.1 hj).1 hj ht
theorem Ap3 (o x:Hd):XC Tryz.prog 92 [.agg (Hd.c o), .pt (Hd.c x)] (fun r=>r=dB (decide (o.p=x.p))):=by
 refine Ao Ack Tryz.func92 R R lb<|zr<|XL.step R (As 2 (l:= [.d (dI o.p.step), .d (dI o.p.alter), .d (dI o.p.oct), .d (dB o.tied), .d (dI o.sh)]) R R (by kernel_rfl))<|za R R<|znr<|zp (Ab R R Gy)<|zp (Ae (s':= .d (.agg (Pit.c o.p))) (Ac (Ad R R Eq R lb)) (by kernel_rfl))<|zp (Bq R R Gy)<|zp (Ar R R Eq lb)<|?_
 exact zp (Yh R R R)<|za R R<|zn<|zt<|z1 R R (rB (decide_eq_decide.2 ⟨fun h=>Pit.eq_of h,fun h=>by rw [h];exact ⟨rfl,rfl,rfl⟩⟩))
theorem Ak0 (x y:Ev) (hx:x.fit) (hy:y.fit):XC Tryz.prog 43 [.agg (Ev.c x), .agg (Ev.c y)] (fun r=>r=dB (decide (JnP x y))):=by
 have hxh:=hx.1
 refine Ao Adk Tryz.func43 R R lb<|zr<|XL.step R (As 2 (l:= [.d (dI x.site), .d (dI x.num), .d (dI x.kind), .d (dI x.v.log), .d (dI x.v.dots), .d (.sl 5 (x.heads.map Hd.c)), .d (.sl 5 (x.graces.map Gr.c)), .d (dI x.art), .d (dI x.orn), .d (dI x.dyn), .d (.sl 2 (x.lyr.map Sy.c)), .d (dI x.stem), .d (dI x.beam)]) R R (by kernel_rfl))<|?_
 refine XL.step R (As 3 (l:= [.d (dI y.site), .d (dI y.num), .d (dI y.kind), .d (dI y.v.log), .d (dI y.v.dots), .d (.sl 5 (y.heads.map Hd.c)), .d (.sl 5 (y.graces.map Gr.c)), .d (dI y.art), .d (dI y.orn), .d (dI y.dyn), .d (.sl 2 (y.lyr.map Sy.c)), .d (dI y.stem), .d (dI y.beam)]) R R (by kernel_rfl))<|za R R<|zn<|zs<|zr<|zp (Ab R R Bn)<|zp (Aa R R Ah R R)<|zp (A9 R R R)<|?_
 refine zn<|?_
 refine zd R (fun c9=> ?_) (fun c9=> ?_)
 exact zr<|za R R<|zn<|zt<|z1 R R (rB (decide_eq_true (Arh c9)).symm)
 refine zi<|zs<|zr<|zp (Ab R R Bi)<|zp (Aa R R Cx R R)<|XL.len R R R Tryz.underlying48 fun hl12=>zm R R<|zn<|Ai<|?_
 refine Av (α:=Nat) (fun k=>k≤x.heads.length∧∀(j:Nat) o,j<k→x.heads[j]? =some o→o.tied=true→y.kind=1∧Jg y.heads o.p=true) (fun k=>mkF [(3, .ptr 3 0 0),(11, .d (.sl 5 (x.heads.map Hd.c))),(12, .d (dI x.heads.length)),(13, .d (dI k))]) (fun k=>mkH [(3, .box ((Ev.c y).map S.d))]) (fun k=>x.heads.length - k) (0) (⟨Nat.zero_le _,fun j o hj=>absurd hj (Nat.not_lt_zero _)⟩) ?_ ?_ ?_
 exact fz ⟨sr,sr,sr,sr,trivial⟩
 exact gz ⟨R,trivial⟩
 intro k hk0
 obtain ⟨hk,hall⟩:=hk0
 refine zr<|zp (Aq R R R)<|zn<|zs<|?_
 refine zd R (fun c14=> ?_) (fun c14=> ?_)
 have hk0a:k<x.heads.length:=by omega
 obtain ⟨x0,hx0⟩:=Ap hk0a
 refine zi<|zs<|Ai<|zr<|zp (Am R R R Gd hx0)<|zp (Ae (s':= .d (.agg (Hd.c x0))) (Ar R R Kr lb) (by kernel_rfl))<|XL.step R (A0 6 (l:= [.d (dI 0), .d (dI 0), .d (dI 0), .d (dB false), .d (dI 0)]) R Md (by kernel_rfl))<|?_
 refine XL.step R (Ag (l':= [.d (dI x0.p.step), .d (dI x0.p.alter), .d (dI x0.p.oct), .d (dB x0.tied), .d (dI x0.sh)]) R R R R Tk R lb (by kernel_rfl))<|znr<|XL.freezeP 6 (ds:=Hd.c x0) R (by kernel_rfl) (by kernel_rfl)<|zp (Bq R R Dw)<|zp (Aw R R Jv)<|zm R R<|?_
 refine XL.bool 19 R (fun g19=> ?_) (fun g19=> ?_)
 refine zp (Ab R R Bn)<|zp (Aa R R Ah R R)<|zp (Az R R R)<|zm R R<|?_
 refine XL.dec 23 R (fun g23=> ?_) (fun g23=> ?_)
 refine zp (Ab R R Bi)<|zp (Aa R R Cx R R)<|zp (O8 (pd:= []) (cd:= [_]) R R R)<|XL.call1 R R (M8 y.heads 92 [.pt (Hd.c x0)] (fun o=>decide (o.p=x0.p)) (fun o _=>Ap3 o x0)) R<|zq R R R<|zp (Cu R R)<|zq R R R<|zn<|?_
 refine Dc (by kernel_rfl) R (fun c30=> ?_) (fun c30=> ?_)
 exact zr<|za R R<|zn<|zt<|z1 R R (rB (decide_eq_false (Ais hx0 (Decidable.not_not.1 c9) g19 (fun k=>by have q:(!Jg y.heads x0.p)=true:=c30;rw [k.2] at q;exact absurd q (by decide)))).symm)
 refine zi<|Af (by kernel_rfl)<|zp (Ak R R R (by omega) (by omega))<|zm R R<|zn<|?_
 exact Al (k+1) (⟨by omega,fun j o hj hjo ht=>by by_cases e:j=k;(· subst e;rw [hx0] at hjo;cases hjo;first|exact ⟨g23,by have q:(!Jg y.heads x0.p)=false:=c30;simpa using q⟩|exact absurd ht (by simp [g19]));(· exact hall j o (by omega) hjo ht)⟩) (by omega) (fz ⟨sr,sr,sr,sr,trivial⟩) (gz ⟨rfl,trivial⟩)
 exact zk 4 R<|zq R R R<|zp (Cu R R)<|zq R R R<|zn<|An (by kernel_rfl) R<|zr<|za R R<|zn<|zt<|z1 R R (rB (decide_eq_false (Ais hx0 (Decidable.not_not.1 c9) g19 (fun k=>g23 k.1))).symm)
 refine zk 10 R<|zq R R R<|zn<|Bb (by kernel_rfl) R<|zi<|Af (by kernel_rfl)<|zp (Ak R R R (by omega) (by omega))<|zm R R<|zn<|?_
 exact Al (k+1) (⟨by omega,fun j o hj hjo ht=>by by_cases e:j=k;(· subst e;rw [hx0] at hjo;cases hjo;first|exact ⟨g23,by have q:(!Jg y.heads x0.p)=false:=c30;simpa using q⟩|exact absurd ht (by simp [g19]));(· exact hall j o (by omega) hjo ht)⟩) (by omega) (fz ⟨sr,sr,sr,sr,trivial⟩) (gz ⟨rfl,trivial⟩)
 have hk0b:k=x.heads.length:=by omega
 exact At<|zr<|za R R<|zn<|zt<|z1 R R (rB (decide_eq_true (Ap2 (fun j o hj hjo=>hall j o (by omega) hjo))).symm)
end Go.Proofs.YtcihalbakenleaaGreat
namespace Go.Proofs.YtcihalbakenleaaGreat
def JnA (l:List Ev):Prop:=∀(i:Nat) x y,l[i]? =some x→l[i+1]? =some y→JnP x y
theorem JnA.app {A B:List Ev} (hA:JnA A) (hB:JnA B) (h:∀x y,A[A.length - 1]? =some x→B[0]? =some y→JnP x y):JnA (A++B):=by
 intro i x y hx hy
 by_cases c:i+1<A.length
 ·rw [List.getElem?_append_left (by omega)] at hx hy;exact hA i x y hx hy
 ·rw [List.getElem?_append_right (by omega)] at hy
  by_cases c2:i<A.length
  ·rw [List.getElem?_append_left c2] at hx
   rw [show i+1 - A.length=0 by omega] at hy
   exact h x y (by rw [show A.length - 1=i by omega];exact hx) hy
  ·rw [List.getElem?_append_right (by omega)] at hx
   exact hB (i - A.length) x y hx (by rw [show i - A.length+1=i+1 - A.length by omega];exact hy)
theorem JnA.take {l:List Ev} (h:JnA l) (n:Nat):JnA (l.take n):=fun i x y hx hy=>by
 rw [List.getElem?_take] at hx hy
 split at hx
 ·split at hy
  ·exact h i x y hx hy
  ·cases hy
 ·cases hx
theorem JnA.drop {l:List Ev} (h:JnA l) (n:Nat):JnA (l.drop n):=fun i x y hx hy=>by
 rw [List.getElem?_drop] at hx hy
 exact h (n+i) x y hx hy
theorem meet_mem {l:List Hd} {q:Pit}:Jg l q=true↔q∈G9 l:=by
 unfold Jg G9
 rw [List.any_eq_true,List.mem_map]
 exact ⟨fun ⟨o,h1,h2⟩=>⟨o,h1,of_decide_eq_true h2⟩,fun ⟨o,h1,h2⟩=>⟨o,h1,decide_eq_true h2⟩⟩
def SameP (x y:Ev):Prop:=x.kind=y.kind∧G9 x.heads=G9 y.heads
theorem SameP.jn {x y:Ev} (h:SameP x y):JnP x y:=fun hk o ho _=>⟨by rw [←h.1];exact hk,meet_mem.2 (by rw [←h.2];exact List.mem_map_of_mem ho)⟩
theorem SameP.right {x y z:Ev} (h:SameP x y) (j:JnP z x):JnP z y:=fun hk o ho ht=>by
 obtain ⟨h1,h2⟩:=j hk o ho ht
 exact ⟨by rw [←h.1];exact h1,meet_mem.2 (by rw [←h.2];exact meet_mem.1 h2)⟩
theorem Anx {x y z:Ev} (hk:y.kind=x.kind) (hh:y.heads.map L4=x.heads.map L4) (j:JnP x z):JnP y z:=fun k o ho ht=>by
 have:L4 o∈x.heads.map L4:=by rw [←hh];exact List.mem_map_of_mem ho
 obtain ⟨q,hq,e⟩:=List.mem_map.1 this
 have e1:q.p=o.p:=congrArg Prod.fst e
 have e2:q.tied=o.tied:=congrArg Prod.snd e
 have:=j (by rw [←hk];exact k) q hq (by rw [e2];exact ht)
 rw [e1] at this
 exact this
theorem Acb (x:Ev) (n:Nat) (fu:Bool) (i:Nat) (v:Val):SameP (Ep x n fu i v) x:=by
 unfold Ep
 split
 ·refine ⟨rfl, ?_⟩
  show G9 (if _ then (x.heads.map Hd.plain).map Hd.tie else x.heads.map Hd.plain)=_
  split
  ·rw [Sq,T1]
  ·rw [T1]
 ·refine ⟨rfl, ?_⟩
  show G9 (if _ then x.heads.map Hd.tie else x.heads)=_
  split
  ·rw [Sq]
  ·rfl
theorem Yn {x:Ev} {vs:List Val} {fu:Bool} {i:Nat} {e:Ev} (h:(Bj x vs fu)[i]? =some e):∃v,vs[i]? =some v∧e=Ep x vs.length fu i v:=by
 rw [Bj,List.getElem?_mapIdx] at h
 cases hv:vs[i]? with
 |none=>rw [hv] at h;cases h
 |some v=>rw [hv] at h;cases h;exact ⟨v,rfl,rfl⟩
theorem T6 {x:Ev} {vs:List Val} {fu:Bool} {e:Ev} (h:e∈Bj x vs fu):SameP e x:=by
 obtain ⟨i,hi⟩:=List.getElem?_of_mem h
 obtain ⟨v,_,e⟩:=Yn hi
 rw [e];exact Acb _ _ _ _ _
theorem Af2 {x:Ev} {vs:List Val} {e:Ev} (h:(Bj x vs true)[vs.length - 1]? =some e):e.kind=x.kind∧e.heads.map L4=x.heads.map L4:=by
 obtain ⟨v,hv,q⟩:=Yn h
 have hl:=(List.getElem?_eq_some_iff.1 hv).1
 rw [q]
 unfold Ep
 rw [if_pos (.inr rfl),decide_eq_false (by omega)]
 refine ⟨rfl, ?_⟩
 show (x.heads.map Hd.plain).map L4=_
 rw [List.map_map];rfl
theorem Ahb (x:Ev):SameP x.tiedE x:=⟨rfl,Sq _⟩
theorem SameP.trans {x y z:Ev} (h:SameP x y) (k:SameP y z):SameP x z:=⟨h.1.trans k.1,h.2.trans k.2⟩
theorem SameP.symm {x y:Ev} (h:SameP x y):SameP y x:=⟨h.1.symm,h.2.symm⟩
theorem Wv {p:Pl} {t a w:Int} {x e:Ev} (h:e∈C2 p t a w x):SameP e x.unrest:=by
 rcases List.mem_append.1 h with h|h
 ·exact (T6 h).trans (Ahb _)
 ·exact T6 h
theorem JnA.same {l:List Ev} {u:Ev} (h:∀e∈l,SameP e u):JnA l:=fun i x y hx hy=>((h x (List.mem_of_getElem? hx)).trans (h y (List.mem_of_getElem? hy)).symm).jn
theorem Ajb {v:Vo} {p:Pl} {t:Int} (hJ:JnA v.evs) (hc:p.chk v=0) (h:(Aj v p t).2=0):JnA (Aj v p t).1.evs:=by
 obtain ⟨hme,hpb,hck⟩:=Ds hc
 rcases Ali hc h with ⟨_,e⟩|⟨k,a,w,x,hk,hw,ha,hd,h1,h2,hl,htw,e⟩
 ·rw [e];exact hJ
 ·rw [e]
  show JnA (v.evs.take k++C2 p t a w x++v.evs.drop (k+1))
  have hkl:=(List.getElem?_eq_some_iff.1 hk).1
  have hN:JnA (C2 p t a w x):=JnA.same fun e he=>Wv he
  by_cases c:x.kind=3
  ·have hr:v.rest:=Decidable.byContradiction fun hr=>(((Jo hr).1 ⟨hck,rfl⟩).2.2.1.ev x (List.mem_of_getElem? hk)).2 c
   obtain ⟨_,_,e0,he0,_⟩:=Kc hr hck
   have h0:k=0:=by rw [he0] at hkl;have: [e0].length=1:=rfl;omega
   rw [he0,h0]
   simpa using hN
  ·have hu:x.unrest=x:=by unfold Ev.unrest;rw [if_neg c]
   have hvs:0<(p.m.split (p.off+t) (p.off+(a+w))).length:=by
    refine Nat.pos_of_ne_zero fun h0=> ?_
    have:=(Li h2).1
    rw [List.eq_nil_of_length_eq_zero h0] at this
    have:tot (([]:List Val).map Ct)=0:=rfl
    omega
   have hA:JnA (v.evs.take k++C2 p t a w x):=by
    refine (hJ.take k).app hN fun z y hz hy=> ?_
    have hs:=Wv (List.mem_of_getElem? hy)
    rw [hu] at hs
    refine hs.symm.right ?_
    have hlk:(v.evs.take k).length=k:=by rw [List.length_take];omega
    have hz2:=hz
    rw [List.getElem?_take] at hz2
    split at hz2
    ·rename_i c2
     rw [hlk] at c2 hz2
     exact hJ (k - 1) z x hz2 (by rw [show k - 1+1=k by omega];exact hk)
    ·cases hz2
   refine hA.app (hJ.drop (k+1)) fun y z hy hz=> ?_
   rw [List.getElem?_drop] at hz
   unfold C2 at hy
   rw [hu, ←List.append_assoc,List.length_append,Ew,List.getElem?_append_right (by omega)] at hy
   have hy2:(Bj x (p.m.split (p.off+t) (p.off+(a+w))) true)[(p.m.split (p.off+t) (p.off+(a+w))).length - 1]? =some y:=by
    rw [←hy];congr 1;omega
   obtain ⟨l1,l2⟩:=Af2 hy2
   exact Anx l1 l2 (hJ k x z hk hz)
theorem Am3 {x y:Ev} (hx:x.err=0) (h:JnP x y):Xw x y=x:=by
 have:x.heads.map (Gk y)=x.heads:=by
  by_cases c:x.kind=1
  ·refine (List.map_congr_left (g:=id) fun o ho=> ?_).trans (List.map_id _)
   unfold Gk
   cases ht:o.tied with
   |false=>show (⟨o.p,false,o.sh⟩:Hd)=o;rw [←ht]
   |true=>
    obtain ⟨h1,h2⟩:=h c o ho ht
    rw [decide_eq_true h1,h2]
    show (⟨o.p,true,o.sh⟩:Hd)=o
    rw [←ht]
  ·rw [Ev.no_heads hx c];rfl
 unfold Xw
 rw [this];rfl
theorem Vl {l:List Ev} (hJ:JnA l) (hE:∀e∈l,e.err=0) (i:Int):Dd l i=l:=by
 unfold Dd
 split
 ·rfl
 ·split
  ·rename_i x y hx hy
   rw [Am3 (hE x (List.mem_of_getElem? hx)) (hJ _ x y hx hy)]
   exact set_same hx
  ·rfl
theorem Aes (p:Tp→Bool) (l:List Tp):B5 p 0 l=l.filter p:=by
 unfold B5
 rw [show Tp.mv 0=id from funext Re,List.map_id]
theorem Alk {d:Vo} {f l:Nat} (ho:d.tups.Pairwise Tp.bef) (hfl:f≤l) (hl:l≤d.evs.length):A8 d f (l - f) (G0 d f l)=d:=by
 have hlen:(G0 d f l).evs.length=l - f:=by
  show ((d.evs.take l).drop f).length=_
  rw [List.length_drop,List.length_take];omega
 have he:(A8 d f (l - f) (G0 d f l)).evs=d.evs:=by
  rw [Aj5 hfl]
  show d.evs.take f++(d.evs.take l).drop f++d.evs.drop l=_
  have:d.evs.take f=(d.evs.take l).take f:=by rw [List.take_take,Nat.min_eq_left hfl]
  rw [this,List.take_append_drop,List.take_append_drop]
 have ht:(A8 d f (l - f) (G0 d f l)).tups=d.tups:=by
  show B5 (fun t=>decide (t.first<(f:Int))) 0 d.tups++B5 (fun _=>true) f (B5 (fun t=>decide ((f:Int)≤t.first∧t.first<(l:Int))) (-f) d.tups)++B5 (fun t=>decide ((f:Int)+(l - f:Nat)≤t.first)) ((G0 d f l).evs.length - (l - f:Nat)) d.tups=d.tups
  rw [hlen,Int.sub_self,Aes,Aes]
  have e1:B5 (fun _=>true) f (B5 (fun t=>decide ((f:Int)≤t.first∧t.first<(l:Int))) (-f) d.tups)=d.tups.filter fun t=>decide ((f:Int)≤t.first∧t.first<(l:Int)):=by
   unfold B5
   rw [List.filter_eq_self.2 (fun _ _=>rfl),List.map_map]
   have:Tp.mv (f:Int)∘Tp.mv (-(f:Int))=id:=by funext t;show (t.mv _).mv _=t;rw [Xa,Int.add_left_neg,Re]
   rw [this,List.map_id]
  rw [e1,show ((f:Int)+(l - f:Nat))=(l:Int) by omega]
  have s1:=Mq ho (l:Int)
  have s2:=Mq (List.Pairwise.filter (fun t=>decide (t.first<(l:Int))) ho) (f:Int)
  rw [List.filter_filter,List.filter_filter] at s2
  have q1:(d.tups.filter fun t=>decide (t.first<(f:Int)) && decide (t.first<(l:Int)))=d.tups.filter fun t=>decide (t.first<(f:Int)):=List.filter_congr fun t _=>by
   rw [←Bool.decide_and];exact decide_eq_decide.2 ⟨fun h=>h.1,fun h=>⟨h,by omega⟩⟩
  have q2:(d.tups.filter fun t=>decide ((f:Int)≤t.first) && decide (t.first<(l:Int)))=d.tups.filter fun t=>decide ((f:Int)≤t.first∧t.first<(l:Int)):=List.filter_congr fun t _=>by
   rw [←Bool.decide_and]
  rw [q1,q2] at s2
  rw [←s2];exact s1.symm
 cases hz:A8 d f (l - f) (G0 d f l) with
 |mk es ts=>
  rw [hz] at he ht
  cases d
  cases he;cases ht;rfl
theorem Aqo {d:Vo} {L:Int} {f l:Nat} (hck:ckE d L=0) (hr:¬d.rest) (hfl:f≤l) (hl:l≤d.evs.length) (h1:M9 d.tups f) (h2:M9 d.tups l):VL (G0 d f l) (((ckL d L).take l).drop f):=by
 have hv:=((Jo hr).1 ⟨hck,rfl⟩).2.2.1
 have hwl:=Gc d.evs
 obtain ⟨hA,_⟩:=hv.tl.cut (a:=l) (by rw [hwl];exact hl) h2
 obtain ⟨_,hB⟩:=hA.cut (a:=f) (by rw [List.length_take,hwl];omega) (fun t ht=>h1 t (List.mem_filter.1 ht).1)
 refine ⟨?_,fun e he=>hv.ev e (List.mem_of_mem_take (List.mem_of_mem_drop he))⟩
 show TL (B5 (fun t=>decide ((f:Int)≤t.first∧t.first<(l:Int))) (-f) d.tups) (wrS ((d.evs.take l).drop f)) _
 rw [Xk,Xj]
 rw [List.filter_filter] at hB
 have q2:(d.tups.filter fun t=>decide ((f:Int)≤t.first) && decide (t.first<(l:Int)))=d.tups.filter fun t=>decide ((f:Int)≤t.first∧t.first<(l:Int)):=List.filter_congr fun t _=>by
  rw [←Bool.decide_and]
 rw [q2] at hB
 exact hB
theorem Anf {v:Vo} {p:Pl} {a b:Int} (hJ:JnA v.evs) (h:(E7 v p a b).2=0) (hab:a≠b):
  (Aj v p a).2=0∧(Aj (Aj v p a).1 p b).2=0∧p.chk (Aj v p a).1=0∧
  ((∀ e, (E7 v p a b).1.evs[0]? = some e → (E7 v p a b).1.evs.length = 1 → e.kind = 3 → (Lb v p a b (E7 v p a b).1).2 = 11) ∧
   ((∀ e, (E7 v p a b).1.evs[0]? = some e → (E7 v p a b).1.evs.length = 1 → e.kind ≠ 3) → Lb v p a b (E7 v p a b).1 = ((Aj (Aj v p a).1 p b).1, 0))) := by
 obtain ⟨d,f,l,e,hreg,hok⟩:=Mw v p a b
 have he:e=0:=by rw [Agt,hreg] at h;exact h
 have hO:=hok he
 have hcu:=All hreg (show ¬e≠0 by omega)
 rw [hcu]
 show _∧_∧_∧((∀e,(G0 d f l).evs[0]? =some e→(G0 d f l).evs.length=1→e.kind=3→_)∧_)
 have hrng:=hO.rng
 have hlt:a<b:=by omega
 have hf:=hO.flt hlt
 have hll:=hO.ll
 obtain ⟨_,_,hck⟩:=Ds hO.chk
 obtain ⟨hsd,hdl⟩:=Kp hck
 have hlen:(G0 d f l).evs.length=l - f:=by
  show ((d.evs.take l).drop f).length=_
  rw [List.length_drop,List.length_take];omega
 have h128:¬128<((G0 d f l).evs.length:Int):=by omega
 have hers:∀e∈(G0 d f l).evs,e∈d.evs:=fun e he=>List.mem_of_mem_take (List.mem_of_mem_drop he)
 have herr:∀e∈d.evs,e.err=0:=(Hv hck).1
 refine ⟨hO.e1,hO.e2,hO.c1,fun e0 h0 _ h3=> ?_,fun hno=> ?_⟩
 ·have hw:(G0 d f l).whole:=(Gu h0).2 h3
  rw [Mx hreg (by omega),Apd h128 hw h0 (by rw [herr e0 (hers e0 (List.mem_of_getElem? h0))];decide)]
 ·have hw:¬(G0 d f l).whole:=fun hw=>by
   obtain ⟨e0,h0⟩:=Xm hw
   have h3:=(Gu h0).1 hw
   have hm:=hers e0 (List.mem_of_getElem? h0)
   by_cases c:d.rest
   ·obtain ⟨_,_,e1,he1,_⟩:=Kc c hck
    have hq:(G0 d f l).evs.length=1:=by
     rw [he1] at hll
     have: [e1].length=1:=rfl
     omega
    exact hno e0 h0 hq h3
   ·exact (((Jo c).1 ⟨hck,rfl⟩).2.2.1.ev e0 hm).2 h3
  have hr:¬d.rest:=fun c=>by
   obtain ⟨_,_,e1,he1,_,h3⟩:=Kc c hck
   have hl1: [e1].length=1:=rfl
   rw [he1] at hll
   have q0:f=0∧l=1:=by omega
   apply hw
   refine (Gu (e:=e1) ?_).2 h3
   show ((d.evs.take l).drop f)[0]? =_
   rw [he1,q0.1,q0.2];rfl
  obtain ⟨fr1,fr2⟩:=hO.free hlt
  have hv:=Aqo hck hr hO.fl hll fr1 fr2
  obtain ⟨i1,i2⟩:=hv.inn
  have ht:=hO.tot
  have hsum:tot (Fo (G0 d f l))=b - a:=by
   have h1:=ht.ta
   have h2:=ht.tb
   have e3:tot ((ckL d p.len).take l)=tot ((ckL d p.len).take f)+tot (((ckL d p.len).take l).drop f):=Mf _ _ _ hO.fl
   rw [i2];omega
  obtain ⟨ws,ls,hT⟩:=Rn hck
  have hback:=Alk hT.tv.ord hO.fl hll
  have hJd:JnA d.evs:=by
   rw [hO.d2];exact Ajb (Ajb hJ hO.hc hO.e1) hO.c1 hO.e2
  rw [Mx hreg (by omega),Apb h128 hw (by omega) (by omega) (by omega) (by rw [hback];have:=hT.tl;omega)]
  have:Qh d f l (G0 d f l)=d:=by
   unfold Qh
   rw [hback,Vl hJd herr,Vl hJd herr]
  rw [this, ←hO.d2]
end Go.Proofs.YtcihalbakenleaaGreat
namespace Go.Proofs.YtcihalbakenleaaGreat
open Go.RowKit
theorem Alj {v:Vo} {p:Pl} {a b:Int} (h:(E7 v p a b).2=0) (hF:v.fit):Evs (E7 v p a b).1.evs∧(E7 v p a b).1.fit∧(E7 v p a b).1.evs.length≤128:=by
 obtain ⟨d,f,l,e,hreg,hok⟩:=Mw v p a b
 have he:e=0:=by rw [Agt,hreg] at h;exact h
 have hO:=hok he
 rw [All hreg (show ¬e≠0 by omega)]
 obtain ⟨_,_,hck⟩:=Ds hO.chk
 have hE:=(Hv hck).2
 obtain ⟨_,hdl⟩:=Kp hck
 refine ⟨fun x hx=>hE x (List.mem_of_mem_take (List.mem_of_mem_drop hx)),Zd (hO.fit hF), ?_⟩
 show ((d.evs.take l).drop f).length≤128
 rw [List.length_drop,List.length_take];omega
theorem Xd {v:Vo} {p:Pl} {t:Int} {q:Vo × Int} (hE:Evs v.evs) (hF:v.fit) (h:J3 v p t=q):XC Tryz.prog 15 [.agg (Vo.c v), .agg (Pl.c p),dI t] (fun r=>r= .tup [.agg (Vo.c q.1),dI q.2]):=by
 subst h;exact Wx v p t hE hF
theorem Aof {v:Vo} {p:Pl} {a b:Int} (h:(E7 v p a b).2=0) (hF:v.fit):J3 v p a=Aj v p a∧J3 (Aj v p a).1 p b=Aj (Aj v p a).1 p b∧Evs (Aj v p a).1.evs∧(Aj v p a).1.fit:=by
 obtain ⟨d,f,l,e,hreg,hok⟩:=Mw v p a b
 have hO:=hok (by rw [Agt,hreg] at h;exact h)
 have hr:=hO.rng
 exact ⟨Alz hO.hc (fun k=>hO.ne (List.eq_nil_of_length_eq_zero (by omega))) (by omega),Alz hO.c1 (fun k=>hO.n1 (List.eq_nil_of_length_eq_zero (by omega))) (by omega),(Hv (Ds hO.c1).2.2).2,M7 hO.hc hF hO.e1⟩
theorem Ano (v:Vo) (p:Pl) (a b:Int) (hE:Evs v.evs):XC Tryz.prog 11 [.agg (Vo.c v), .agg (Pl.c p), .agg [dI a,dI b]] (fun r=>r=dB true):=by
 refine Ao Ad1 Tryz.func11 R R lb<|zr<|XL.step R (As 3 (l:= [.d (.sl 13 (v.evs.map Ev.c)), .d (.sl 4 (v.tups.map Tp.c))]) R R (by kernel_rfl))<|XL.step R (As 4 (l:= [.d (dI p.m.count), .d (dI p.m.unit), .d (dI p.m.g0), .d (dI p.m.g1), .d (dI p.m.g2), .d (dI p.m.g3), .d (dI p.m.g4), .d (dI p.m.g5), .d (dI p.off), .d (dI p.len)]) R R (by kernel_rfl))<|?_
 refine XL.step R (As 5 (l:= [_,_]) R R R)<|za R R<|zn<|zs<|zr<|XL.call1 R R (Pi) R<|zp (Cu R R)<|zm R R<|?_
 refine XL.bool 18 R (fun g18=> ?_) (fun g18=> ?_)
 exact zk 3 R<|zq R R R<|zm R R<|zk 4 R<|zq R R R<|zn<|An (by kernel_rfl) R<|zr<|XL.call1 R R (Pi) R<|za R R<|zn<|zt<|z1 R R (R)
 refine zp (Ae (s':= .d (.agg (Vo.c v))) (Ac (Ad R R Au R lb)) (by kernel_rfl))<|XL.call1 R R (Ap8 _) R<|zp (Bo R R)<|zq R R R<|zm R R<|?_
 refine XL.dec 23 R (fun g23=> ?_) (fun g23=> ?_)
 exact zk 4 R<|zq R R R<|zn<|An (by kernel_rfl) R<|zr<|XL.call1 R R (Pi) R<|za R R<|zn<|zt<|z1 R R (R)
 have hfv:=Decidable.not_not.1 g23
 have htl:=hfv.2.2
 have hF:=hfv.fit
 have hvl:=hfv.2.1
 refine zp (Ae (s':= .d (.agg (Vo.c v))) (Ac (Ad R R Au R lb)) (by kernel_rfl))<|zp (Ae (s':= .d (.agg (Pl.c p))) (Ac (Ad R R Fu R lb)) (by kernel_rfl))<|XL.call1 R R (Agm _ _ (by assumption) (by omega)) R<|zp (A9 R R R)<|zq R R R<|zn<|?_
 refine zd R (fun c28=> ?_) (fun c28=> ?_)
 exact zr<|XL.call1 R R (Pi) R<|za R R<|zn<|zt<|z1 R R (R)
 refine zi<|zs<|zs<|?_
 have hc0:p.chk v=0:=Decidable.not_not.1 c28
 refine Af (by kernel_rfl)<|za R R<|zn<|Ai<|?_
 refine Av (α:=Nat) (fun i=>i≤v.evs.length∧∀(j:Nat) x y,j<i→v.evs[j]? =some x→v.evs[j+1]? =some y→JnP x y) (fun i=>mkF [(3, .ptr 3 0 0),(4, .ptr 4 0 0),(5, .ptr 5 0 0),(7, .d (dI (i:Nat)))]) (fun i=>mkH [(3, .box ((Vo.c v).map S.d)),(4, .box ((Pl.c p).map S.d)),(5, .box [.d (dI a), .d (dI b)])]) (fun i=>v.evs.length - i) (0) (⟨Nat.zero_le _,fun j x y hj=>absurd hj (Nat.not_lt_zero _)⟩) ?_ ?_ ?_
 exact fz ⟨sr,sr,sr,sr,trivial⟩
 exact gz ⟨R,R,R,trivial⟩
 intro i hk0
 obtain ⟨hi,hall⟩:=hk0
 refine zs<|zr<|zm R R<|zp (Ak R R R (by omega) (by omega))<|zp (Ab R R A1)<|zp (Aa R R Br R R)<|XL.len R R R Tryz.underlying22 fun hl34=>zp (Aq R R R)<|zn<|?_
 refine zd R (fun c35=> ?_) (fun c35=> ?_)
 obtain ⟨x,hx⟩:∃x,v.evs[i]? =some x:=Ap (by omega)
 obtain ⟨y,hy⟩:∃y,v.evs[i+1]? =some y:=Ap (by omega)
 have hxf:=hF.ev x (List.mem_of_getElem? hx)
 have hyf:=hF.ev y (List.mem_of_getElem? hy)
 refine zi<|zs<|Ai<|zs<|Bg [] (by kernel_rfl) (by kernel_rfl) (by kernel_rfl) (by decide)<|yp (Ab R R A1)<|yp (Aa R R Br R R)<|ym R R<|yp (Eu R R R (R) B7 (hx))<|yp (Ae (s':= .d (.agg (Ev.c x))) (Ar R R Ax lb) (by kernel_rfl))<|yp (Ab R R A1)<|yp (Aa R R Br R R)<|ym R R<|yp (Ak R R R (by omega) (by omega))<|?_
 refine yp (Eu R R R (show _=((i+1:Nat):Int) by omega) B7 (hy))<|yp (Ae (s':= .d (.agg (Ev.c y))) (Ar R R Ax lb) (by kernel_rfl))<|ChK.cons R (CStep.call R (Ak0 _ _ (by assumption) (by assumption)) R)<|yp (Bo R R)<|?_
 refine ChK.nil ⟨by kernel_rfl, ?_⟩
 refine zd R (fun c50=> ?_) (fun c50=> ?_)
 exact zr<|za R R<|zn<|zt<|z1 R R (R)
 refine zi<|Af (by kernel_rfl)<|zm R R<|zp (Ak R R R (by omega) (by omega))<|za R R<|zn<|?_
 exact Al (i+1) (⟨by omega,fun j x1 y1 hj h1 h2=>by by_cases e:j=i;(· subst e;rw [hx] at h1;rw [hy] at h2;cases h1;cases h2;exact Decidable.not_not.1 c50);(· exact hall j x1 y1 (by omega) h1 h2)⟩) (by omega) (fz ⟨sr,sr,sr,sr,trivial⟩) (gz ⟨rfl,rfl,rfl,trivial⟩)
 have hJ:JnA v.evs:=fun j x y h1 h2=>hall j x y (by have:=(List.getElem?_eq_some_iff.1 h2).1;omega) h1 h2
 refine At<|zr<|zp (Ae (s':= .d (.agg (Vo.c v))) (Ac (Ad R R Au R lb)) (by kernel_rfl))<|zp (Ae (s':= .d (.agg (Pl.c p))) (Ac (Ad R R Fu R lb)) (by kernel_rfl))<|zp (F9 (k:=0) R R R Tryz.underlying62 Df (by omega))<|zp (Aa R R Ah R R)<|zp (F9 (k:=1) R R R Tryz.underlying62 Df (by omega))<|?_
 refine zp (Aa R R Ah R R)<|XL.call1 R R (Aqn _ _ _ _ (by assumption) (by assumption)) R<|zm R R<|zp (A6 R R R)<|zp (A6 R R R)<|XL.step R (A0 8 (l:= [.d (.v (.slice none 0 0)), .d (.v (.slice none 0 0))]) R Ba (by kernel_rfl))<|?_
 refine XL.step R (Ag (l':= [.d (.sl 13 (((E7 v p a b).1).evs.map Ev.c)), .d (.sl 4 (((E7 v p a b).1).tups.map Tp.c))]) R R R R Bu R lb (by kernel_rfl))<|za R R<|zn<|zs<|zr<|zm R R<|zp (A9 R R R)<|zm R R<|?_
 refine XL.dec 63 R (fun g63=> ?_) (fun g63=> ?_)
 exact zk 5 R<|zq R R R<|zn<|An (by kernel_rfl) R<|zr<|za R R<|zn<|zt<|z1 R R (R)
 refine zp (F9 (k:=0) R R R Tryz.underlying62 Df (by omega))<|zp (Aa R R Ah R R)<|zp (F9 (k:=1) R R R Tryz.underlying62 Df (by omega))<|zp (Aa R R Ah R R)<|zp (Az R R R)<|zq R R R<|zn<|?_
 refine zd R (fun c69=> ?_) (fun c69=> ?_)
 exact zr<|za R R<|zn<|zt<|z1 R R (R)
 refine zi<|zs<|?_
 have hce:(E7 v p a b).2=0:=Decidable.not_not.1 g63
 obtain ⟨hd1,hd2,hE1,hF1⟩:=Aof hce hF
 obtain ⟨he1,he2,hc1,hB1,hB2⟩:=Anf hJ hce c69
 obtain ⟨hzE,hzF0,hzl⟩:=Alj hce hF
 have hzF:=hzF0.f3
 refine Af (by kernel_rfl)<|zp (Ae (s':= .d (.agg (Vo.c v))) (Ac (Ad R R Au R lb)) (by kernel_rfl))<|zp (Ae (s':= .d (.agg (Pl.c p))) (Ac (Ad R R Fu R lb)) (by kernel_rfl))<|zp (F9 (k:=0) R R R Tryz.underlying62 Df (by omega))<|zp (Aa R R Ah R R)<|zp (F9 (k:=1) R R R Tryz.underlying62 Df (by omega))<|?_
 refine zp (Aa R R Ah R R)<|zp (Ae (s':= .d (.agg (Vo.c (E7 v p a b).1))) (Ac (Ad R R Au R lb)) (by kernel_rfl))<|XL.call1 R R (Ape _ _ _ _ _ (by assumption) (by assumption) (by assumption) (by assumption)) R<|zm R R<|zp (A6 R R R)<|zp (A6 R R R)<|?_
 refine XL.step R (A0 10 (l:= [.d (.v (.slice none 0 0)), .d (.v (.slice none 0 0))]) R Ba (by kernel_rfl))<|XL.step R (Ag (l':= [.d (.sl 13 (((Lb v p a b ((E7 v p a b).1)).1).evs.map Ev.c)), .d (.sl 4 (((Lb v p a b ((E7 v p a b).1)).1).tups.map Tp.c))]) R R R R Bu R lb (by kernel_rfl))<|za R R<|zn<|zs<|zr<|zp (Ab R R A1)<|zp (Aa R R Br R R)<|?_
 refine XL.len R R R Tryz.underlying22 fun hl83=>zp (Az R R R)<|zm R R<|?_
 refine XL.dec 85 R (fun g85=> ?_) (fun g85=> ?_)
 obtain ⟨e0,he0⟩:∃e,(E7 v p a b).1.evs[0]? =some e:=Ap (by omega)
 refine zp (Ab R R A1)<|zp (Aa R R Br R R)<|zp (Am (k:=0) R R R B7 (he0))<|zp (Bq R R Bn)<|zp (Aw R R Ah)<|zp (Az R R R)<|zq R R R<|zn<|?_
 refine zd R (fun c92=> ?_) (fun c92=> ?_)
 refine zs<|?_
 have hx:=hB1 e0 he0 (by omega) c92
 exact Af (by kernel_rfl)<|zm R R<|zp (Dv (Az R R R) (hx))<|za R R<|zn<|zt<|z1 R R (R)
 refine zi<|zs<|?_
 have hpd:=hB2 (fun e he hl h3=>by first|omega|(rw [he0] at he;cases he;exact c92 h3))
 refine Af (by kernel_rfl)<|zp (Ae (s':= .d (.agg (Vo.c v))) (Ac (Ad R R Au R lb)) (by kernel_rfl))<|zp (Ae (s':= .d (.agg (Pl.c p))) (Ac (Ad R R Fu R lb)) (by kernel_rfl))<|zp (F9 (k:=0) R R R Tryz.underlying62 Df (by omega))<|zp (Aa R R Ah R R)<|XL.call1 R R (Xd hE hF hd1) R<|zm R R<|zp (A6 R R R)<|zp (A6 R R R)<|?_
 refine XL.step R (A0 12 (l:= [.d (.v (.slice none 0 0)), .d (.v (.slice none 0 0))]) R Ba (by kernel_rfl))<|XL.step R (Ag (l':= [.d (.sl 13 (((Aj v p a).1).evs.map Ev.c)), .d (.sl 4 (((Aj v p a).1).tups.map Tp.c))]) R R R R Bu R lb (by kernel_rfl))<|za R R<|znr<|zp (Ae (s':= .d (.agg (Vo.c (Aj v p a).1))) (Ac (Ad R R Au R lb)) (by kernel_rfl))<|?_
 refine zp (Ae (s':= .d (.agg (Pl.c p))) (Ac (Ad R R Fu R lb)) (by kernel_rfl))<|zp (F9 (k:=1) R R R Tryz.underlying62 Df (by omega))<|zp (Aa R R Ah R R)<|XL.call1 R R (Xd hE1 hF1 hd2) R<|zm R R<|zp (A6 R R R)<|zp (A6 R R R)<|XL.step R (A0 14 (l:= [.d (.v (.slice none 0 0)), .d (.v (.slice none 0 0))]) R Ba (by kernel_rfl))<|?_
 refine XL.step R (Ag (l':= [.d (.sl 13 (((Aj (Aj v p a).1 p b).1).evs.map Ev.c)), .d (.sl 4 (((Aj (Aj v p a).1 p b).1).tups.map Tp.c))]) R R R R Bu R lb (by kernel_rfl))<|za R R<|znr<|zm R R<|zp (Dv (Az R R R) (by rw [hpd]))<|zm R R<|zm R R<|zp (Dv (Az R R R) (he1))<|zq R R R<|zm R R<|zm R R<|zp (Dv (Az R R R) (he2))<|zq R R R<|zm R R<|?_
 exact zp (Ae (s':= .d (.agg (Vo.c (Lb v p a b ((E7 v p a b).1)).1))) (Ac (Ad R R Au R lb)) (by kernel_rfl))<|zp (Ae (s':= .d (.agg (Vo.c (Aj (Aj v p a).1 p b).1))) (Ac (Ad R R Au R lb)) (by kernel_rfl))<|XL.call1 R R (Ag5 (Yu _ _) (by rw [hpd])) R<|zq R R R<|za R R<|zn<|zt<|z1 R R (R)
 refine zk 6 R<|zq R R R<|zn<|Bb (by kernel_rfl) R<|zi<|zs<|?_
 have hpd:=hB2 (fun e he hl h3=>by first|omega|(rw [he0] at he;cases he;exact c92 h3))
 refine Af (by kernel_rfl)<|zp (Ae (s':= .d (.agg (Vo.c v))) (Ac (Ad R R Au R lb)) (by kernel_rfl))<|zp (Ae (s':= .d (.agg (Pl.c p))) (Ac (Ad R R Fu R lb)) (by kernel_rfl))<|zp (F9 (k:=0) R R R Tryz.underlying62 Df (by omega))<|zp (Aa R R Ah R R)<|XL.call1 R R (Xd hE hF hd1) R<|zm R R<|zp (A6 R R R)<|zp (A6 R R R)<|?_
 refine XL.step R (A0 12 (l:= [.d (.v (.slice none 0 0)), .d (.v (.slice none 0 0))]) R Ba (by kernel_rfl))<|XL.step R (Ag (l':= [.d (.sl 13 (((Aj v p a).1).evs.map Ev.c)), .d (.sl 4 (((Aj v p a).1).tups.map Tp.c))]) R R R R Bu R lb (by kernel_rfl))<|za R R<|znr<|zp (Ae (s':= .d (.agg (Vo.c (Aj v p a).1))) (Ac (Ad R R Au R lb)) (by kernel_rfl))<|?_
 refine zp (Ae (s':= .d (.agg (Pl.c p))) (Ac (Ad R R Fu R lb)) (by kernel_rfl))<|zp (F9 (k:=1) R R R Tryz.underlying62 Df (by omega))<|zp (Aa R R Ah R R)<|XL.call1 R R (Xd hE1 hF1 hd2) R<|zm R R<|zp (A6 R R R)<|zp (A6 R R R)<|XL.step R (A0 14 (l:= [.d (.v (.slice none 0 0)), .d (.v (.slice none 0 0))]) R Ba (by kernel_rfl))<|?_
 refine XL.step R (Ag (l':= [.d (.sl 13 (((Aj (Aj v p a).1 p b).1).evs.map Ev.c)), .d (.sl 4 (((Aj (Aj v p a).1 p b).1).tups.map Tp.c))]) R R R R Bu R lb (by kernel_rfl))<|za R R<|znr<|zm R R<|zp (Dv (Az R R R) (by rw [hpd]))<|zm R R<|zm R R<|zp (Dv (Az R R R) (he1))<|zq R R R<|zm R R<|zm R R<|zp (Dv (Az R R R) (he2))<|zq R R R<|zm R R<|?_
 exact zp (Ae (s':= .d (.agg (Vo.c (Lb v p a b ((E7 v p a b).1)).1))) (Ac (Ad R R Au R lb)) (by kernel_rfl))<|zp (Ae (s':= .d (.agg (Vo.c (Aj (Aj v p a).1 p b).1))) (Ac (Ad R R Au R lb)) (by kernel_rfl))<|XL.call1 R R (Ag5 (Yu _ _) (by rw [hpd])) R<|zq R R R<|za R R<|zn<|zt<|z1 R R (R)
end Go.Proofs.YtcihalbakenleaaGreat
