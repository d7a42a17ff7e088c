/- Part 4 of what the statements need: lemmas and walks. -/
import Derived.Test.YtcihalbakenleaaGreatRs3
set_option linter.unusedVariables false
set_option linter.unusedSimpArgs false
set_option linter.unusedSectionVars false
set_option maxRecDepth 20000
set_option maxHeartbeats 8000000
namespace Go.Proofs.YtcihalbakenleaaGreat
open Go.RowKit
theorem Anj {l:List Tp} {n:Int} (hT:Tups l n) (ws:List Int):∀i x,x∈Cw l i ws→0≤x∧x≤253671505920:=by
 induction ws with
 |nil=>intro i x h;cases h
 |cons w r ih=>
  intro i x h
  rw [Cw] at h
  rcases List.mem_cons.1 h with e|e
  ·rw [e];exact Sh hT.ok (hT.hits i)
  ·exact ih _ _ e
theorem Af1 (l:List Tp) (ws:List Int):Nums (G7 l ws):=by
 unfold G7
 split
 ·rename_i h
  have hT:=Iy (show ¬Cr l ws≠0 by omega)
  have hb:=hT.bd
  exact ⟨by rw [Ig];omega,Anj hT ws 0⟩
 ·exact ⟨by simp,fun x h=>by cases h⟩
theorem St:Nums []:=⟨by simp,fun x h=>by cases h⟩
theorem V4 (v:Vo):Nums (Fo v):=by
 unfold Fo
 split
 ·exact Af1 _ _
 ·exact St
theorem Ql (v:Vo) (L:Int):Nums (D6 v L):=by
 unfold D6
 split
 ·exact St
 ·rename_i h
  split
  ·refine ⟨by simp,fun x hx=> ?_⟩
   rw [List.mem_singleton.1 hx]
   unfold Ca at h
   split at h
   ·omega
   ·omega
  ·exact V4 v
theorem Jw (v:Vo) (L:Int):Nums (ckL v L):=by
 unfold ckL
 split
 ·exact St
 ·exact Ql v L
theorem Aqq {v:Vo} {L:Int} (h0:Ca v L=0) (h1:0<((D6 v L).length:Int)) (h2:tot (D6 v L)≠L): []=ckL v L∧20=ckE v L:=by
 have e:ckE v L=20:=by rw [ckE,if_pos ⟨h0,by omega,h2⟩]
 exact ⟨by rw [ckL,e,if_pos (by decide)],e.symm⟩
theorem Agw {v:Vo} {L:Int} (h0:Ca v L=0) (h:¬(0<((D6 v L).length:Int)∧tot (D6 v L)≠L)):D6 v L=ckL v L∧0=ckE v L:=by
 have e:ckE v L=0:=by rw [ckE,if_neg (fun k=>h ⟨by omega,k.2.2⟩),h0]
 exact ⟨by rw [ckL,e,if_neg (by decide)],e.symm⟩
theorem Aqp {v:Vo} {L:Int} (h:Ca v L≠0): []=ckL v L∧Ca v L=ckE v L:=by
 have e:ckE v L=Ca v L:=by rw [ckE,if_neg (fun k=>h k.1)]
 exact ⟨by rw [ckL,e,if_pos h],e.symm⟩
theorem Kq (v:Vo) (L:Int) (hE:Evs v.evs):XC Tryz.prog 68 [.agg (Vo.c v), .v (.int .i64 L)] (fun r=>r= .tup [.sl 1 (B4 (ckL v L)),dI (ckE v L)]):=by
 have hN:=Ql v L
 refine Ao Ac5 Tryz.func68 R R lb<|zr<|XL.step R (As 2 (l:= [.d (.sl 13 (v.evs.map Ev.c)), .d (.sl 4 (v.tups.map Tp.c))]) R R (by kernel_rfl))<|za R R<|za R R<|znr<|zp (Ae (s':= .d (.agg (Vo.c v))) (Ac (Ad R R Au R lb)) (by kernel_rfl))<|zm R R<|XL.call1 R R (Af9 _ _ (by assumption)) R<|zm R R<|zp (A6 R R R)<|zp (A6 R R R)<|za R R<|za R R<|?_
 refine zn<|zs<|zr<|zm R R<|zp (Az R R R)<|zm R R<|?_
 refine XL.dec 16 R (fun g16=> ?_) (fun g16=> ?_)
 refine zm R R<|XL.len R R R Tryz.underlying64 fun hl18=>zp (A5 R R R)<|zq R R R<|zm R R<|?_
 refine XL.dec 21 R (fun g21=> ?_) (fun g21=> ?_)
 refine zm R R<|XL.call1 R R (Sb _ (by assumption)) R<|zm R R<|zp (A9 R R R)<|zq R R R<|zn<|?_
 refine zd R (fun c26=> ?_) (fun c26=> ?_)
 refine Af (by kernel_rfl)<|za R R<|zn<|zs<|zr<|zm R R<|zp (A9 R R R)<|zn<|?_
 refine zd R (fun c28=> ?_) (fun c28=> ?_)
 refine zr<|zm R R<|za R R<|za R R<|zn<|zt<|?_
 exact Bl R (RV.nil (sz:=1) R R) (RV.tmp R R) (r2 (rSl (Aqq g16 g21 c26).1) (rI (Aqq g16 g21 c26).2))
 refine zi<|zr<|zm R R<|za R R<|za R R<|zn<|zt<|?_
 exact Bl R (RV.tmp R R) (RV.tmp R R) (by exfalso;omega)
 refine zi<|zs<|zr<|zm R R<|zp (A9 R R R)<|zn<|?_
 refine zd R (fun c28=> ?_) (fun c28=> ?_)
 refine zr<|zm R R<|za R R<|za R R<|zn<|zt<|?_
 exact Bl R (RV.nil (sz:=1) R R) (RV.tmp R R) (by exfalso;omega)
 refine zi<|zr<|zm R R<|za R R<|za R R<|zn<|zt<|?_
 exact Bl R (RV.tmp R R) (RV.tmp R R) (r2 (rSl (Agw g16 (fun h=>c26 h.2)).1) (rI (Agw g16 (fun h=>c26 h.2)).2))
 refine zk 4 R<|zq R R R<|zn<|Bb (by kernel_rfl) R<|zi<|zs<|zr<|zm R R<|zp (A9 R R R)<|zn<|?_
 refine zd R (fun c28=> ?_) (fun c28=> ?_)
 refine zr<|zm R R<|za R R<|za R R<|zn<|zt<|?_
 exact Bl R (RV.nil (sz:=1) R R) (RV.tmp R R) (by exfalso;omega)
 refine zi<|zr<|zm R R<|za R R<|za R R<|zn<|zt<|?_
 exact Bl R (RV.tmp R R) (RV.tmp R R) (r2 (rSl (Agw g16 (fun h=>g21 h.1)).1) (rI (Agw g16 (fun h=>g21 h.1)).2))
 refine zk 3 R<|zq R R R<|zm R R<|zk 4 R<|zq R R R<|zn<|Bb (by kernel_rfl) R<|zi<|zs<|zr<|zm R R<|zp (A9 R R R)<|zn<|?_
 refine zd R (fun c28=> ?_) (fun c28=> ?_)
 refine zr<|zm R R<|za R R<|za R R<|zn<|zt<|?_
 exact Bl R (RV.nil (sz:=1) R R) (RV.tmp R R) (r2 (rSl (Aqp g16).1) (rI (Aqp g16).2))
 refine zi<|zr<|zm R R<|za R R<|za R R<|zn<|zt<|?_
 exact Bl R (RV.tmp R R) (RV.tmp R R) (by exfalso;omega)
theorem Ag1 (v:Vo) (L:Int) (hE:Evs v.evs):XC Tryz.prog 27 [.agg (Vo.c v), .v (.int .i64 L)] (fun r=>r= .tup [.sl 1 (B4 (ckL v L)),dI (ckE v L)]):=by
 refine Ao Ads Tryz.func27 R R lb<|zr<|XL.step R (As 2 (l:= [.d (.sl 13 (v.evs.map Ev.c)), .d (.sl 4 (v.tups.map Tp.c))]) R R (by kernel_rfl))<|za R R<|za R R<|znr<|zp (Ae (s':= .d (.agg (Vo.c v))) (Ac (Ad R R Au R lb)) (by kernel_rfl))<|zm R R<|XL.call1 R R (Kq _ _ (by assumption)) R<|zp (A6 R R R)<|zp (A6 R R R)<|za R R<|za R R<|zn<|?_
 refine zt<|?_
 exact Bl R (RV.tmp R R) (RV.tmp R R) (R)
theorem Alp (v:Vo) (L:Int) (hE:Evs v.evs):XC Tryz.prog 30 [.agg (Vo.c v), .v (.int .i64 L)] (fun r=>r=dI (ckE v L)):=by
 refine Ao Adq Tryz.func30 R R lb<|zr<|XL.step R (As 2 (l:= [.d (.sl 13 (v.evs.map Ev.c)), .d (.sl 4 (v.tups.map Tp.c))]) R R (by kernel_rfl))<|za R R<|znr<|zp (Ae (s':= .d (.agg (Vo.c v))) (Ac (Ad R R Au R lb)) (by kernel_rfl))<|zm R R<|XL.call1 R R (Kq _ _ (by assumption)) R<|zm R R<|zp (A6 R R R)<|zp (A6 R R R)<|za R R<|za R R<|znr<|?_
 exact zm R R<|za R R<|zn<|zt<|z1 R R (R)
theorem Apm {v:Vo} {L:Int} (h:ckE v L≠0): []=Bm (ckL v L):=by rw [ckL,if_pos h];rfl
theorem Ajm (v:Vo) (L:Int) (hE:Evs v.evs):XC Tryz.prog 28 [.agg (Vo.c v), .v (.int .i64 L)] (fun r=>r= .tup [.sl 1 (B4 (Bm (ckL v L))),dI (ckE v L)]):=by
 have hN:=Jw v L
 refine Ao Adr Tryz.func28 R R lb<|zr<|XL.step R (As 2 (l:= [.d (.sl 13 (v.evs.map Ev.c)), .d (.sl 4 (v.tups.map Tp.c))]) R R (by kernel_rfl))<|za R R<|za R R<|znr<|zp (Ae (s':= .d (.agg (Vo.c v))) (Ac (Ad R R Au R lb)) (by kernel_rfl))<|zm R R<|XL.call1 R R (Kq _ _ (by assumption)) R<|zm R R<|zp (A6 R R R)<|zp (A6 R R R)<|za R R<|za R R<|?_
 refine zn<|zs<|zr<|zm R R<|zp (A9 R R R)<|zn<|?_
 refine zd R (fun c15=> ?_) (fun c15=> ?_)
 refine zr<|zm R R<|za R R<|za R R<|zn<|zt<|?_
 exact Bl R (RV.nil (sz:=1) R R) (RV.tmp R R) (r2 (rSl (Apm c15)) R)
 refine zi<|zr<|zm R R<|XL.call1 R R (V3 _ (by assumption)) R<|za R R<|za R R<|zn<|zt<|?_
 exact Bl R (RV.tmp R R) (RV.tmp R R) (r2 R (rI (by omega)))
def atS (l:List Int) (t:Int):Nat→Int × Int
 |0=>(0,0)
 |k+1=>match l[k]? with
  |some x=>if tot (l.take k)≤t∧0<x then (k,tot (l.take k)) else atS l t k
  |none=>atS l t k
theorem Ul {l:List Int} {t x:Int} {k:Nat} (h:l[k]? =some x) (h1:tot (l.take k)≤t) (h2:0<x):atS l t (k+1)=((k:Int),tot (l.take k)):=by simp only [atS,h];rw [if_pos ⟨h1,h2⟩]
theorem Mm {l:List Int} {t x:Int} {k:Nat} (h:l[k]? =some x) (h1:¬(tot (l.take k)≤t∧0<x)):atS l t (k+1)=atS l t k:=by simp only [atS,h];rw [if_neg h1]
def atE (v:Vo) (L t:Int):Int:=if ckE v L≠0 then ckE v L else if (ckL v L).length=0 then 10 else if t<0∨L≤t then 2 else 0
def atV (v:Vo) (L t:Int):Int × Int:=if atE v L t≠0 then (0,0) else atS (ckL v L) t (ckL v L).length
theorem Ie {l:List Int} {k:Nat} {x:Int} (h:(Bm l)[k]? =some x):x=tot (l.take k):=by
 have hk:=(List.getElem?_eq_some_iff.1 h).1
 rw [Bm,List.length_map,List.length_range] at hk
 rw [Bm,List.getElem?_map,List.getElem?_range hk] at h
 cases h;rfl
theorem K2 (l:List Int):(Bm l).length=l.length:=by rw [Bm,List.length_map,List.length_range]
theorem Lw {v:Vo} {L t a:Int} (h:atE v L t=a) (ha:a≠0):0=(atV v L t).1∧0=(atV v L t).2∧a=atE v L t:=by
 have e:atV v L t=(0,0):=by rw [atV,h,if_pos ha]
 rw [e];exact ⟨rfl,rfl,h.symm⟩
theorem Abr {v:Vo} {L t:Int} (h:ckE v L≠0):atE v L t=ckE v L:=by rw [atE,if_pos h]
theorem Abq {v:Vo} {L t:Int} (h:¬ckE v L≠0) (h2:((ckL v L).length:Int)=0):atE v L t=10:=by rw [atE,if_neg h,if_pos (by omega)]
theorem S6 {v:Vo} {L t:Int} (h:¬ckE v L≠0) (h2:¬((ckL v L).length:Int)=0) (h3:t<0∨L≤t):atE v L t=2:=by rw [atE,if_neg h,if_neg (by omega),if_pos h3]
theorem Agy {v:Vo} {L t:Int} (h:¬ckE v L≠0) (h2:¬((ckL v L).length:Int)=0) (h3:¬(t<0∨L≤t)):atS (ckL v L) t (ckL v L).length=atV v L t∧0=atE v L t:=by
 have e:atE v L t=0:=by rw [atE,if_neg h,if_neg (by omega),if_neg h3]
 exact ⟨by rw [atV,e,if_neg (by decide)],e.symm⟩
theorem Arz (v:Vo) (L t:Int) (hE:Evs v.evs):XC Tryz.prog 22 [.agg (Vo.c v), .v (.int .i64 L), .v (.int .i64 t)] (fun r=>r= .tup [dI (atV v L t).1,dI (atV v L t).2,dI (atE v L t)]):=by
 have hN:=Jw v L
 have hol:=K2 (ckL v L)
 refine Ao Adt Tryz.func22 R R lb<|zr<|XL.step R (As 3 (l:= [.d (.sl 13 (v.evs.map Ev.c)), .d (.sl 4 (v.tups.map Tp.c))]) R R (by kernel_rfl))<|za R R<|za R R<|za R R<|znr<|zp (Ae (s':= .d (.agg (Vo.c v))) (Ac (Ad R R Au R lb)) (by kernel_rfl))<|zm R R<|XL.call1 R R (Kq _ _ (by assumption)) R<|zm R R<|zp (A6 R R R)<|zp (A6 R R R)<|za R R<|?_
 refine za R R<|zn<|zs<|Ai<|zr<|zm R R<|zp (A9 R R R)<|za R R<|zn<|?_
 refine zd R (fun c18=> ?_) (fun c18=> ?_)
 refine zr<|zm R R<|za R R<|za R R<|za R R<|zn<|zt<|?_
 exact Ut R (RV.tmp R R) (RV.tmp R R) (RV.tmp R R) (r3 (rI (Lw (t:=t) (Abr c18) c18).1) (rI (Lw (t:=t) (Abr c18) c18).2.1) (rI (Lw (t:=t) (Abr c18) c18).2.2))
 refine zr<|zm R R<|XL.len R R R Tryz.underlying64 fun hl24=>zp (Az R R R)<|za R R<|zn<|?_
 refine zd R (fun c22=> ?_) (fun c22=> ?_)
 refine zr<|za R R<|za R R<|za R R<|zn<|zt<|?_
 exact Ut R (RV.tmp R R) (RV.tmp R R) (RV.tmp R R) (r3 (rI (Lw (t:=t) (Abq c18 c22) (by decide)).1) (rI (Lw (t:=t) (Abq c18 c22) (by decide)).2.1) (rI (Lw (t:=t) (Abq c18 c22) (by decide)).2.2))
 refine zr<|zm R R<|zp (Aq R R R)<|zm R R<|?_
 refine XL.dec 29 R (fun g29=> ?_) (fun g29=> ?_)
 refine zk 3 R<|zq R R R<|za R R<|zn<|An (by kernel_rfl) R<|zr<|za R R<|za R R<|za R R<|zn<|zt<|?_
 exact Ut R (RV.tmp R R) (RV.tmp R R) (RV.tmp R R) (r3 (rI (Lw (S6 c18 c22 (by omega)) (by decide)).1) (rI (Lw (S6 c18 c22 (by omega)) (by decide)).2.1) (rI (Lw (S6 c18 c22 (by omega)) (by decide)).2.2))
 refine zm R R<|zm R R<|zp (E4 R R R)<|zq R R R<|za R R<|zn<|?_
 refine zd R (fun c26=> ?_) (fun c26=> ?_)
 refine zr<|za R R<|za R R<|za R R<|zn<|zt<|?_
 exact Ut R (RV.tmp R R) (RV.tmp R R) (RV.tmp R R) (r3 (rI (Lw (S6 c18 c22 (by omega)) (by decide)).1) (rI (Lw (S6 c18 c22 (by omega)) (by decide)).2.1) (rI (Lw (S6 c18 c22 (by omega)) (by decide)).2.2))
 refine zi<|zs<|zr<|zm R R<|XL.call1 R R (V3 _ (by assumption)) R<|XL.len R R R Tryz.underlying64 fun hl36=>zm R R<|zn<|Ai<|?_
 refine Av (α:=Nat) (fun k=>k≤(Bm (ckL v L)).length) (fun k=>mkF [(2, .d (dI t)),(6, .d (dI (atS (ckL v L) t k).1)),(7, .d (dI (atS (ckL v L) t k).2)),(8, .d (dI (ckE v L))),(9, .d (.sl 1 (B4 (ckL v L)))),(35, .d (.sl 1 (B4 (Bm (ckL v L))))),(36, .d (dI (Bm (ckL v L)).length)),(37, .d (dI k))]) (fun k=>mkH []) (fun k=>(Bm (ckL v L)).length - k) (0) (Nat.zero_le _) ?_ ?_ ?_
 exact fz ⟨sr,sr,sr,sr,sr,sr,sr,sr,trivial⟩
 exact HSub.nil
 intro k hk1
 refine zr<|zp (Aq R R R)<|zn<|zs<|?_
 refine zd R (fun c38=> ?_) (fun c38=> ?_)
 have hk1a:k<(Bm (ckL v L)).length:=by omega
 obtain ⟨x1,hx1⟩:=Ap hk1a
 have hxe:=Ie hx1
 obtain ⟨y,hy⟩:∃y,(ckL v L)[k]? =some y:=Ap (by omega)
 refine zi<|zs<|Ai<|zr<|zm R R<|zp (Am R R R C9 hx1)<|zp (Aw R R Ah)<|za R R<|za R R<|znr<|zm R R<|zm R R<|zp (Ha R R R)<|zm R R<|?_
 refine XL.dec 45 R (fun g45=> ?_) (fun g45=> ?_)
 refine zm R R<|zm R R<|zp (Am R R R C9 (hy))<|zp (Aw R R Ah)<|zp (A5 R R R)<|zq R R R<|zn<|?_
 refine zd R (fun c51=> ?_) (fun c51=> ?_)
 refine Af (by kernel_rfl)<|zm R R<|zm R R<|za R R<|za R R<|zn<|Af (by kernel_rfl)<|zp (Ak R R R (by omega) (by omega))<|zm R R<|zn<|?_
 exact Al (k+1) (by omega) (by omega) (fz ⟨sr, .same (sI (by rw [Ul hy (by rw [←Ie hx1];exact g45) c51])), .same (sI (by rw [Ul hy (by rw [←Ie hx1];exact g45) c51];exact Ie hx1)),sr,sr,sr,sr,sr,trivial⟩) (HSub.nil)
 refine zi<|Af (by kernel_rfl)<|zp (Ak R R R (by omega) (by omega))<|zm R R<|zn<|?_
 exact Al (k+1) (by omega) (by omega) (fz ⟨sr, .same (sI (by rw [Mm hy (fun h=>c51 h.2)])), .same (sI (by rw [Mm hy (fun h=>c51 h.2)])),sr,sr,sr,sr,sr,trivial⟩) (HSub.nil)
 refine zk 5 R<|zq R R R<|zn<|Bb (by kernel_rfl) R<|zi<|Af (by kernel_rfl)<|zp (Ak R R R (by omega) (by omega))<|zm R R<|zn<|?_
 exact Al (k+1) (by omega) (by omega) (fz ⟨sr, .same (sI (by rw [Mm hy (fun h=>g45 (by rw [Ie hx1];exact h.1))])), .same (sI (by rw [Mm hy (fun h=>g45 (by rw [Ie hx1];exact h.1))])),sr,sr,sr,sr,sr,trivial⟩) (HSub.nil)
 have hk1b:k=(Bm (ckL v L)).length:=by omega
 have hke:k=(ckL v L).length:=by omega
 refine At<|zr<|zm R R<|zm R R<|za R R<|za R R<|za R R<|zn<|zt<|?_
 exact Ut R (RV.tmp R R) (RV.tmp R R) (RV.tmp R R) (r3 (rI (by rw [hke,(Agy c18 c22 (by omega)).1])) (rI (by rw [hke,(Agy c18 c22 (by omega)).1])) (rI (Agy c18 c22 (by omega)).2))
end Go.Proofs.YtcihalbakenleaaGreat
namespace Go.Proofs.YtcihalbakenleaaGreat
open Go.RowKit
set_option maxRecDepth 4000
set_option maxHeartbeats 4000000 in
theorem Ae7 (d:Nat) (w:World) (a0 a1 a2 a3 a4 a5 b0 b1 b2 b3 b4 b5:Int):(Op.equalIn (d+2) 26 (.agg #[.int .i64 a0, .int .i64 a1, .int .i64 a2, .int .i64 a3, .int .i64 a4, .int .i64 a5]) (.agg #[.int .i64 b0, .int .i64 b1, .int .i64 b2, .int .i64 b3, .int .i64 b4, .int .i64 b5])).run Tryz.prog w=
  .ok (decide (a0=b0∧a1=b1∧a2=b2∧a3=b3∧a4=b4∧a5=b5)) w:=by
 rw [show d+2=(d+1)+1 from rfl]
 have hp:∀(cs:Array Value) (k:Nat) (v:Value),cs[k]? =some v→(part 3 cs k).run Tryz.prog w= .ok v w:=fun cs k v h=>C8 Ah w h
 have he:∀a b:Int,(Op.equalIn (d+1) 3 (.int .i64 a) (.int .i64 b)).run Tryz.prog w= .ok (decide (a=b)) w:=fun a b=>F0 d 3 Tryz.underlying3 a b
 have ha0:=hp (#[.int .i64 a0, .int .i64 a1, .int .i64 a2, .int .i64 a3, .int .i64 a4, .int .i64 a5]) ((0)*1) (.int .i64 a0) rfl
 have hb0:=hp (#[.int .i64 b0, .int .i64 b1, .int .i64 b2, .int .i64 b3, .int .i64 b4, .int .i64 b5]) ((0)*1) (.int .i64 b0) rfl
 have ha1:=hp (#[.int .i64 a0, .int .i64 a1, .int .i64 a2, .int .i64 a3, .int .i64 a4, .int .i64 a5]) ((0+1)*1) (.int .i64 a1) rfl
 have hb1:=hp (#[.int .i64 b0, .int .i64 b1, .int .i64 b2, .int .i64 b3, .int .i64 b4, .int .i64 b5]) ((0+1)*1) (.int .i64 b1) rfl
 have ha2:=hp (#[.int .i64 a0, .int .i64 a1, .int .i64 a2, .int .i64 a3, .int .i64 a4, .int .i64 a5]) ((0+1+1)*1) (.int .i64 a2) rfl
 have hb2:=hp (#[.int .i64 b0, .int .i64 b1, .int .i64 b2, .int .i64 b3, .int .i64 b4, .int .i64 b5]) ((0+1+1)*1) (.int .i64 b2) rfl
 have ha3:=hp (#[.int .i64 a0, .int .i64 a1, .int .i64 a2, .int .i64 a3, .int .i64 a4, .int .i64 a5]) ((0+1+1+1)*1) (.int .i64 a3) rfl
 have hb3:=hp (#[.int .i64 b0, .int .i64 b1, .int .i64 b2, .int .i64 b3, .int .i64 b4, .int .i64 b5]) ((0+1+1+1)*1) (.int .i64 b3) rfl
 have ha4:=hp (#[.int .i64 a0, .int .i64 a1, .int .i64 a2, .int .i64 a3, .int .i64 a4, .int .i64 a5]) ((0+1+1+1+1)*1) (.int .i64 a4) rfl
 have hb4:=hp (#[.int .i64 b0, .int .i64 b1, .int .i64 b2, .int .i64 b3, .int .i64 b4, .int .i64 b5]) ((0+1+1+1+1)*1) (.int .i64 b4) rfl
 have ha5:=hp (#[.int .i64 a0, .int .i64 a1, .int .i64 a2, .int .i64 a3, .int .i64 a4, .int .i64 a5]) ((0+1+1+1+1+1)*1) (.int .i64 a5) rfl
 have hb5:=hp (#[.int .i64 b0, .int .i64 b1, .int .i64 b2, .int .i64 b3, .int .i64 b4, .int .i64 b5]) ((0+1+1+1+1+1)*1) (.int .i64 b5) rfl
 clear hp
 generalize hd:d+1=d1 at*
 generalize hA:(#[.int .i64 a0, .int .i64 a1, .int .i64 a2, .int .i64 a3, .int .i64 a4, .int .i64 a5]:Array Value)=A at*
 generalize hB:(#[.int .i64 b0, .int .i64 b1, .int .i64 b2, .int .i64 b3, .int .i64 b4, .int .i64 b5]:Array Value)=B at*
 unfold Op.equalIn
 simp only [Sem.run_bind,run_underlying Tryz.underlying26,Result.andThen_ok,sizeB.run Df]
 simp only [Std.Legacy.Range.forIn_eq_forIn_range',Std.Legacy.Range.size,List.range',List.forIn_cons,List.forIn_nil]
 by_cases e0:a0=b0
 rotate_left
 ·simp_all
 by_cases e1:a1=b1
 rotate_left
 ·simp_all
 by_cases e2:a2=b2
 rotate_left
 ·simp_all
 by_cases e3:a3=b3
 rotate_left
 ·simp_all
 by_cases e4:a4=b4
 rotate_left
 ·simp_all
 by_cases e5:a5=b5
 rotate_left
 ·simp_all
 ·simp_all
theorem Akh {t':TypeId} {o:Oper} {e:Operand→S} {h:Xh} {x y:Operand} {a0:Int} {a1:Int} {a2:Int} {a3:Int} {a4:Int} {a5:Int} {b0:Int} {b1:Int} {b2:Int} {b3:Int} {b4:Int} {b5:Int} (ho:o.op= .binOp .eql 26 x y t') (hx:e x= .d (.agg [.v (.int .i64 a0), .v (.int .i64 a1), .v (.int .i64 a2), .v (.int .i64 a3), .v (.int .i64 a4), .v (.int .i64 a5)])) (hy:e y= .d (.agg [.v (.int .i64 b0), .v (.int .i64 b1), .v (.int .i64 b2), .v (.int .i64 b3), .v (.int .i64 b4), .v (.int .i64 b5)])):Bf Tryz.prog o e h (.d (.v (.bool (decide (a0=b0∧a1=b1∧a2=b2∧a3=b3∧a4=b4∧a5=b5))))):=by
 refine Fy ho hx hy rfl rfl (by kernel_rfl) fun w=> ?_
 refine (run_eql_struct w 26 #[.int .i64 a0, .int .i64 a1, .int .i64 a2, .int .i64 a3, .int .i64 a4, .int .i64 a5] #[.int .i64 b0, .int .i64 b1, .int .i64 b2, .int .i64 b3, .int .i64 b4, .int .i64 b5]).trans ?_
 have hq:=Ae7 9998 w a0 a1 a2 a3 a4 a5 b0 b1 b2 b3 b4 b5
 simp only [Nat.reduceAdd] at hq
 rw [hq]
 simp only [Result.andThen_ok]
theorem Akd {t':TypeId} {o:Oper} {e:Operand→S} {h:Xh} {x y:Operand} {a0:Int} {a1:Int} {a2:Int} {a3:Int} {a4:Int} {a5:Int} {b0:Int} {b1:Int} {b2:Int} {b3:Int} {b4:Int} {b5:Int} (ho:o.op= .binOp .neq 26 x y t') (hx:e x= .d (.agg [.v (.int .i64 a0), .v (.int .i64 a1), .v (.int .i64 a2), .v (.int .i64 a3), .v (.int .i64 a4), .v (.int .i64 a5)])) (hy:e y= .d (.agg [.v (.int .i64 b0), .v (.int .i64 b1), .v (.int .i64 b2), .v (.int .i64 b3), .v (.int .i64 b4), .v (.int .i64 b5)])):Bf Tryz.prog o e h (.d (.v (.bool (decide (¬(a0=b0∧a1=b1∧a2=b2∧a3=b3∧a4=b4∧a5=b5)))))):=by
 refine Fy ho hx hy rfl rfl (by kernel_rfl) fun w=> ?_
 refine (run_neq_struct w 26 #[.int .i64 a0, .int .i64 a1, .int .i64 a2, .int .i64 a3, .int .i64 a4, .int .i64 a5] #[.int .i64 b0, .int .i64 b1, .int .i64 b2, .int .i64 b3, .int .i64 b4, .int .i64 b5]).trans ?_
 have hq:=Ae7 9998 w a0 a1 a2 a3 a4 a5 b0 b1 b2 b3 b4 b5
 simp only [Nat.reduceAdd] at hq
 rw [hq]
 simp only [Result.andThen_ok,decide_not]
end Go.Proofs.YtcihalbakenleaaGreat
namespace Go.Proofs.YtcihalbakenleaaGreat
open Go.RowKit
theorem Ap4 {m:Me} {k:Nat} {g:Int} (h:m.gs[k]? =some g): [dI m.g0,dI m.g1,dI m.g2,dI m.g3,dI m.g4,dI m.g5][k]? =some (dI g):=by
 have:(m.gs.map dI)[k]? =some (dI g):=by rw [List.getElem?_map,h];rfl
 exact this
def Me.flat (m:Me):Prop:=m.g0=0∧m.g1=0∧m.g2=0∧m.g3=0∧m.g4=0∧m.g5=0
instance (m:Me):Decidable m.flat:=by unfold Me.flat;exact inferInstance
def gGo (k:Nat) (s n:Int):List Int→Option (Int × Int)
 | []=>some (s,n)
 |g::r=>if g<0∨64<g∨(0<g∧(k:Int)≠n) then none else if 0<g then gGo (k+1) (s+g) (n+1) r else gGo (k+1) s n r
def gOk (c:Int) (o:Option (Int × Int)):Prop:=match o with|some p=>p.1=c∧2≤p.2|none=>False
instance (c:Int) (o:Option (Int × Int)):Decidable (gOk c o):=by unfold gOk;cases o<;>exact inferInstance
def Me.grouped (m:Me):Prop:=m.flat∨gOk m.count (gGo 0 0 0 m.gs)
instance (m:Me):Decidable m.grouped:=by unfold Me.grouped;exact inferInstance
theorem K6 {m:Me} {k:Nat} {g s n:Int} (h:m.gs[k]? =some g) (hb:g<0∨64<g∨(0<g∧(k:Int)≠n)):gGo k s n (m.gs.drop k)=none:=by rw [Cj h,gGo,if_pos hb]
theorem Ae0 {m:Me} {k:Nat} {g s n:Int} (h:m.gs[k]? =some g) (hb:¬(g<0∨64<g∨(0<g∧(k:Int)≠n))) (hg:0<g):gGo k s n (m.gs.drop k)=gGo (k+1) (s+g) (n+1) (m.gs.drop (k+1)):=by rw [Cj h,gGo,if_neg hb,if_pos hg]
theorem Ai0 {m:Me} {k:Nat} {g s n:Int} (h:m.gs[k]? =some g) (hb:¬(g<0∨64<g∨(0<g∧(k:Int)≠n))) (hg:¬0<g):gGo k s n (m.gs.drop k)=gGo (k+1) s n (m.gs.drop (k+1)):=by rw [Cj h,gGo,if_neg hb,if_neg hg]
theorem An4 {m:Me} (h:m.grouped):true=decide m.grouped:=by rw [decide_eq_true h]
theorem Yz {m:Me} (h1:¬m.flat) (h:gGo 0 0 0 m.gs=none):false=decide m.grouped:=by rw [decide_eq_false];exact fun k=>k.elim h1 (by rw [h];exact fun k=>k)
theorem Y0 {m:Me} (h1:¬m.flat) {s n:Int} (h:gGo 0 0 0 m.gs=some (s,n)):m.grouped↔s=m.count∧2≤n:=by
 unfold Me.grouped
 rw [h]
 exact ⟨fun k=>k.elim (fun k=>absurd k h1) fun k=>k,fun k=> .inr k⟩
theorem Agj (m:Me):XC Tryz.prog 138 [.agg (Me.c m)] (fun r=>r=dB (decide m.grouped)):=by
 refine Ao Aar Tryz.func138 R R lb<|zr<|XL.step R (As 1 (l:= [.d (dI m.count), .d (dI m.unit), .d (dI m.g0), .d (dI m.g1), .d (dI m.g2), .d (dI m.g3), .d (dI m.g4), .d (dI m.g5)]) R R (by kernel_rfl))<|za R R<|zn<|zs<|zr<|zp (Ab R R M6)<|?_
 refine zp (Ae (s':= .d (.agg [dI m.g0,dI m.g1,dI m.g2,dI m.g3,dI m.g4,dI m.g5])) (Ac (Ad R R Abt R lb)) (by kernel_rfl))<|zp (Ae (s':= .d (.agg [dI 0,dI 0,dI 0,dI 0,dI 0,dI 0])) (Ac (Pa R Tryz.underlying26 Df Ad3 R)) (by kernel_rfl))<|zp (Akh R R R)<|zn<|?_
 refine zd R (fun c10=> ?_) (fun c10=> ?_)
 exact zr<|za R R<|zn<|zt<|z1 R R (rB (An4 (.inl c10)))
 refine zi<|zr<|za R R<|za R R<|zn<|zs<|zr<|zp (Ab R R M6)<|zp (Ae (s':= .d (.agg [dI m.g0,dI m.g1,dI m.g2,dI m.g3,dI m.g4,dI m.g5])) (Ac (Ad R R Abt R lb)) (by kernel_rfl))<|zm R R<|zn<|Ai<|?_
 refine Av (α:=Nat × Int × Int) (fun p=>p.1≤6∧gGo p.1 p.2.1 p.2.2 (m.gs.drop p.1)=gGo 0 0 0 m.gs∧0≤p.2.1∧p.2.1≤64*p.1∧0≤p.2.2∧p.2.2≤p.1) (fun p=>mkF [(1, .ptr 1 0 0),(3, .d (dI p.2.1)),(4, .d (dI p.2.2)),(12, .d (.agg [dI m.g0,dI m.g1,dI m.g2,dI m.g3,dI m.g4,dI m.g5])),(13, .d (dI p.1))]) (fun p=>mkH [(1, .box ((Me.c m).map S.d))]) (fun p=>6 - p.1) ((0,0,0)) (⟨Nat.zero_le _,R,by simp,by simp,by simp,by simp⟩) ?_ ?_ ?_
 exact fz ⟨sr,sr,sr,sr,sr,trivial⟩
 exact gz ⟨R,trivial⟩
 intro p hk0
 obtain ⟨hk,hgo,hs0,hs1,hn0,hn1⟩:=hk0
 refine zr<|zp (Aq R R R)<|zn<|zs<|?_
 refine zd R (fun c14=> ?_) (fun c14=> ?_)
 obtain ⟨g,hg⟩:∃g,m.gs[p.1]? =some g:=Ap (by show p.1<6;omega)
 refine zi<|zs<|Ai<|zr<|zm R R<|zp (V0 (k:=p.1) R R R R Tryz.underlying26 Ah Df (by omega) (Ap4 hg))<|za R R<|za R R<|zn<|Ai<|zr<|zm R R<|zp (Aq R R R)<|zm R R<|?_
 refine XL.dec 20 R (fun g20=> ?_) (fun g20=> ?_)
 exact zk 2 R<|zq R R R<|zm R R<|zk 7 R<|zq R R R<|za R R<|zn<|An (by kernel_rfl) R<|zr<|za R R<|zn<|zt<|z1 R R (rB (Yz c10 (by rw [←hgo];exact K6 hg (by omega))))
 refine zm R R<|zp (A5 R R R)<|zq R R R<|zm R R<|?_
 refine XL.dec 24 R (fun g24=> ?_) (fun g24=> ?_)
 exact zk 7 R<|zq R R R<|za R R<|zn<|An (by kernel_rfl) R<|zr<|za R R<|zn<|zt<|z1 R R (rB (Yz c10 (by rw [←hgo];exact K6 hg (by omega))))
 refine zm R R<|zp (A5 R R R)<|zm R R<|?_
 refine XL.dec 27 R (fun g27=> ?_) (fun g27=> ?_)
 refine zm R R<|zm R R<|zp (A9 R R R)<|zq R R R<|zq R R R<|za R R<|zn<|?_
 refine zd R (fun c17=> ?_) (fun c17=> ?_)
 exact zr<|za R R<|zn<|zt<|z1 R R (rB (Yz c10 (by rw [←hgo];exact K6 hg (by omega))))
 refine zr<|zm R R<|zp (A5 R R R)<|za R R<|zn<|?_
 refine zd R (fun c33=> ?_) (fun c33=> ?_)
 refine Af (by kernel_rfl)<|zm R R<|zm R R<|zp (Ak R R R (by omega) (by omega))<|zm R R<|zp (Ak R R R (by omega) (by omega))<|za R R<|za R R<|zn<|Af (by kernel_rfl)<|zp (Ak R R R (by omega) (by omega))<|zm R R<|zn<|?_
 exact Al ((p.1+1,p.2.1+g,p.2.2+1)) (⟨by simp only;omega,by rw [←Ae0 hg (by omega) c33];exact hgo,by simp only;omega,by simp only;omega,by simp only;omega,by simp only;omega⟩) (by simp only;omega) (fz ⟨sr,sr,sr,sr,sr,trivial⟩) (gz ⟨rfl,trivial⟩)
 refine zi<|Af (by kernel_rfl)<|zp (Ak R R R (by omega) (by omega))<|zm R R<|zn<|?_
 exfalso;omega
 refine zk 3 R<|zq R R R<|zq R R R<|za R R<|zn<|Bb (by kernel_rfl) R<|zr<|zm R R<|zp (A5 R R R)<|za R R<|zn<|?_
 refine zd R (fun c33=> ?_) (fun c33=> ?_)
 refine Af (by kernel_rfl)<|zm R R<|zm R R<|zp (Ak R R R (by omega) (by omega))<|zm R R<|zp (Ak R R R (by omega) (by omega))<|za R R<|za R R<|zn<|Af (by kernel_rfl)<|zp (Ak R R R (by omega) (by omega))<|zm R R<|zn<|?_
 exfalso;omega
 refine zi<|Af (by kernel_rfl)<|zp (Ak R R R (by omega) (by omega))<|zm R R<|zn<|?_
 exact Al ((p.1+1,p.2.1,p.2.2)) (⟨by simp only;omega,by rw [←Ai0 hg (by omega) c33];exact hgo,by simp only;omega,by simp only;omega,by simp only;omega,by simp only;omega⟩) (by simp only;omega) (fz ⟨sr,sr,sr,sr,sr,trivial⟩) (gz ⟨rfl,trivial⟩)
 have hke:p.1=6:=by omega
 have hend:gGo 0 0 0 m.gs=some (p.2.1,p.2.2):=by rw [←hgo,hke];rfl
 refine At<|zr<|zm R R<|zp (Ab R R Gz)<|zp (Aa R R Ah R R)<|zp (Az R R R)<|zm R R<|?_
 refine XL.dec 46 R (fun g46=> ?_) (fun g46=> ?_)
 exact zm R R<|zp (E4 R R R)<|zq R R R<|za R R<|zn<|zt<|z1 R R (rB (by rw [decide_eq_decide,Y0 c10 hend];exact ⟨fun h=>⟨g46,h⟩,fun h=>h.2⟩))
 exact zk 2 R<|zq R R R<|za R R<|zn<|zt<|z1 R R (rB (by rw [eq_comm,decide_eq_false_iff_not,Y0 c10 hend];exact fun h=>g46 h.1))
def Me.pow (m:Me):Prop:=((m.unit.toNat &&& (m.unit - 1).toNat:Nat):Int)=0
instance (m:Me):Decidable m.pow:=by unfold Me.pow;exact inferInstance
def Me.err (m:Me):Int:=if m.count<1∨64<m.count then 2 else if m.unit<1∨64<m.unit∨¬m.pow then 17 else if ¬m.grouped then 19 else 0
theorem Af7 {m:Me} (h:m.count<1∨64<m.count):2=m.err:=by rw [Me.err,if_pos h]
theorem Af6 {m:Me} (h:¬(m.count<1∨64<m.count)) (h2:m.unit<1∨64<m.unit∨¬m.pow):17=m.err:=by rw [Me.err,if_neg h,if_pos h2]
theorem Apw {m:Me} (h:¬(m.count<1∨64<m.count)) (h2:¬(m.unit<1∨64<m.unit∨¬m.pow)) (h3:¬m.grouped):19=m.err:=by rw [Me.err,if_neg h,if_neg h2,if_pos h3]
theorem Apv {m:Me} (h:¬(m.count<1∨64<m.count)) (h2:¬(m.unit<1∨64<m.unit∨¬m.pow)) (h3:m.grouped):0=m.err:=by rw [Me.err,if_neg h,if_neg h2,if_neg (fun k=>k h3)]
theorem Aer {a b c:Prop} (h1:¬a) (h2:¬b) (h3:¬c):¬(a∨b∨c):=fun k=>k.elim h1 fun k=>k.elim h2 h3
theorem Ok {a b:Prop} (h1:¬a) (h2:¬b):¬(a∨b):=fun k=>k.elim h1 h2
theorem V9 (m:Me):XC Tryz.prog 93 [.agg (Me.c m)] (fun r=>r=dI m.err):=by
 refine Ao Acj Tryz.func93 R R lb<|zr<|XL.step R (As 1 (l:= [.d (dI m.count), .d (dI m.unit), .d (dI m.g0), .d (dI m.g1), .d (dI m.g2), .d (dI m.g3), .d (dI m.g4), .d (dI m.g5)]) R R (by kernel_rfl))<|za R R<|zn<|zs<|Ai<|zr<|zp (Ab R R Gz)<|zp (Aa R R Ah R R)<|zp (Aq R R R)<|zm R R<|?_
 refine XL.dec 7 R (fun g7=> ?_) (fun g7=> ?_)
 exact zk 3 R<|zq R R R<|za R R<|zn<|An (by kernel_rfl) R<|zr<|za R R<|zn<|zt<|z1 R R (rI (Af7 (.inl g7)))
 refine zp (Ab R R Gz)<|zp (Aa R R Ah R R)<|zp (A5 R R R)<|zq R R R<|za R R<|zn<|?_
 refine zd R (fun c3=> ?_) (fun c3=> ?_)
 exact zr<|za R R<|zn<|zt<|z1 R R (rI (Af7 (.inr c3)))
 refine zr<|zp (Ab R R J1)<|zp (Aa R R Ah R R)<|zp (Aq R R R)<|zm R R<|?_
 refine XL.dec 16 R (fun g16=> ?_) (fun g16=> ?_)
 exact zk 3 R<|zq R R R<|zm R R<|zk 7 R<|zq R R R<|za R R<|zn<|An (by kernel_rfl) R<|zr<|za R R<|zn<|zt<|z1 R R (rI (Af6 (Ok g7 c3) (.inl g16)))
 refine zp (Ab R R J1)<|zp (Aa R R Ah R R)<|zp (A5 R R R)<|zq R R R<|zm R R<|?_
 refine XL.dec 21 R (fun g21=> ?_) (fun g21=> ?_)
 exact zk 7 R<|zq R R R<|za R R<|zn<|An (by kernel_rfl) R<|zr<|za R R<|zn<|zt<|z1 R R (rI (Af6 (Ok g7 c3) (.inr (.inl g21))))
 refine zp (Ab R R J1)<|zp (Aa R R Ah R R)<|zp (Ab R R J1)<|zp (Aa R R Ah R R)<|zp (Di R R R (by omega) (by omega))<|zp (Al2 R R R (by omega) (by omega) (by omega) (by omega))<|zp (A9 R R R)<|zq R R R<|za R R<|zn<|?_
 refine zd R (fun c12=> ?_) (fun c12=> ?_)
 exact zr<|za R R<|zn<|zt<|z1 R R (rI (Af6 (Ok g7 c3) (.inr (.inr c12))))
 refine zr<|zp (Ae (s':= .d (.agg (Me.c m))) (Ac (Ad R R Ci R lb)) (by kernel_rfl))<|XL.call1 R R (Agj _) R<|zp (Bo R R)<|za R R<|zn<|?_
 refine zd R (fun c30=> ?_) (fun c30=> ?_)
 exact zr<|za R R<|zn<|zt<|z1 R R (rI (Apw (Ok g7 c3) (Aer g16 g21 c12) c30))
 exact zi<|zr<|za R R<|zn<|zt<|z1 R R (rI (Apv (Ok g7 c3) (Aer g16 g21 c12) (Decidable.not_not.1 c30)))
structure Mok (m:Me):Prop where
 count:1≤m.count∧m.count≤64
 unit:1≤m.unit∧m.unit≤64
 pow:m.pow
 grp:m.grouped
theorem Apt {m:Me} (h:¬m.err≠0):Mok m:=by
 have h0:m.err=0:=by omega
 unfold Me.err at h0
 split at h0
 ·omega
 ·split at h0
  ·omega
  ·rename_i h2
   split at h0
   ·omega
   ·rename_i h3
    exact ⟨by omega,⟨by omega,by omega⟩,Decidable.not_not.1 fun k=>h2 (.inr (.inr k)),Decidable.not_not.1 h3⟩
def Me.u (m:Me):Int:=1935360 / m.unit
def Me.len (m:Me):Int:=m.count*m.u
theorem Mok.u {m:Me} (h:Mok m):1≤m.u∧m.u≤1935360:=by
 have:=h.unit
 unfold Me.u
 exact ⟨(Int.le_ediv_iff_mul_le (by omega)).2 (by omega),Int.ediv_le_self _ (by omega)⟩
theorem Mok.len {m:Me} (h:Mok m):1≤m.len∧m.len≤123863040:=by
 have h1:=h.u
 have h2:=h.count
 unfold Me.len
 have h3:1*1≤m.count*m.u:=Int.mul_le_mul h2.1 h1.1 (by omega) (by omega)
 have h4:m.count*m.u≤64*1935360:=Int.mul_le_mul h2.2 h1.2 (by omega) (by omega)
 omega
theorem I3 (m:Me) (h:Mok m):XC Tryz.prog 177 [.agg (Me.c m)] (fun r=>r=dI m.u):=by
 have hu:=h.unit
 exact Ao Zw Tryz.func177 R R lb<|zr<|XL.step R (As 1 (l:= [.d (dI m.count), .d (dI m.unit), .d (dI m.g0), .d (dI m.g1), .d (dI m.g2), .d (dI m.g3), .d (dI m.g4), .d (dI m.g5)]) R R (by kernel_rfl))<|za R R<|znr<|zp (Ab R R J1)<|zp (Aa R R Ah R R)<|zp (G2 R R R (by omega) (by omega) (by omega))<|za R R<|zn<|zt<|z1 R R (rI R)
theorem T8 (m:Me) (h:Mok m):XC Tryz.prog 171 [.agg (Me.c m)] (fun r=>r=dI m.len):=by
 have hu:=h.u
 have hc:=h.count
 have hl:=h.len
 have hl2:m.count*m.u=m.len:=rfl
 refine Ao Z2 Tryz.func171 R R lb<|zr<|XL.step R (As 1 (l:= [.d (dI m.count), .d (dI m.unit), .d (dI m.g0), .d (dI m.g1), .d (dI m.g2), .d (dI m.g3), .d (dI m.g4), .d (dI m.g5)]) R R (by kernel_rfl))<|za R R<|zn<|zs<|Bg [] (by kernel_rfl) (by kernel_rfl) (by kernel_rfl) (by decide)<|yp (Ab R R Gz)<|yp (Aa R R Ah R R)<|?_
 refine yp (Ae (s':= .d (.agg (Me.c m))) (Ac (Ad R R Ci R lb)) (by kernel_rfl))<|ChK.cons R (CStep.call R (I3 _ (by assumption)) R)<|yp (Id R R R (by omega) (by omega))<|ya R R<|?_
 refine ChK.nil ⟨by kernel_rfl, ?_⟩
 exact zt<|z1 R R (rI R)
end Go.Proofs.YtcihalbakenleaaGreat
namespace Go.Proofs.YtcihalbakenleaaGreat
open Go.RowKit
def Hc:List Int→Int
 | []=>0
 |x::r=>r.foldl min x
def He:List Int→Int
 | []=>0
 |x::r=>r.foldl max x
theorem V8 {l:List Int} (h:l≠ []) (x:Int):Hc (l++ [x])=min (Hc l) x:=by
 cases l with
 |nil=>exact absurd rfl h
 |cons a r=>simp only [Hc,List.cons_append,List.foldl_append,List.foldl_cons,List.foldl_nil]
theorem Wa {l:List Int} (h:l≠ []) (x:Int):He (l++ [x])=max (He l) x:=by
 cases l with
 |nil=>exact absurd rfl h
 |cons a r=>simp only [He,List.cons_append,List.foldl_append,List.foldl_cons,List.foldl_nil]
theorem Ad8 {l:List Int} {k:Nat} (h:1≤k) (h2:0<l.length):l.take k≠ []:=fun e=>by
 have:=congrArg List.length e
 rw [List.length_take,List.length_nil] at this
 omega
theorem Aik {l:List Int} {k:Nat} {x:Int} (h:l[k]? =some x) (hk:1≤k):Hc (l.take (k+1))=min (Hc (l.take k)) x:=by
 rw [Bp h,V8 (Ad8 hk (by have:=(List.getElem?_eq_some_iff.1 h).1;omega))]
theorem Ail {l:List Int} {k:Nat} {x:Int} (h:l[k]? =some x) (hk:1≤k):He (l.take (k+1))=max (He (l.take k)) x:=by
 rw [Bp h,Wa (Ad8 hk (by have:=(List.getElem?_eq_some_iff.1 h).1;omega))]
theorem Yr {l:List Int} {x:Int} (h:l[0]? =some x):Hc (l.take 1)=x∧He (l.take 1)=x:=by
 cases l with
 |nil=>cases h
 |cons a r=>cases h;exact ⟨rfl,rfl⟩
theorem Am4 (l:List Int) (h:0<l.length):XC Tryz.prog 173 [.sl 1 (B4 l)] (fun r=>r=dI (Hc l)):=by
 refine Ao Z0 Tryz.func173 R R lb<|zr<|za R R<|zn<|zs<|zr<|zm R R<|XL.len R R R Tryz.underlying64 fun hl6=>zp (Aq R R R)<|zn<|?_
 refine zd R (fun c7=> ?_) (fun c7=> ?_)
 exfalso;omega
 refine zi<|zs<|?_
 obtain ⟨x,hx⟩:∃x,l[0]? =some x:=Ap h
 refine Af (by kernel_rfl)<|zm R R<|zp (Am (k:=0) R R R C9 (hx))<|zp (Aw R R Ah)<|za R R<|zn<|zs<|zr<|za R R<|zn<|Ai<|?_
 refine Av (α:=Nat) (fun k=>1≤k∧k≤l.length) (fun k=>mkF [(0, .d (.sl 1 (B4 l))),(2, .d (dI 0)),(3, .d (dI (Hc (l.take k)))),(4, .d (dI k))]) (fun k=>mkH []) (fun k=>l.length - k) (1) (⟨Nat.le_refl _,h⟩) ?_ ?_ ?_
 exact fz ⟨sr,sr, .same (sI (Yr hx).1.symm),sr,trivial⟩
 exact HSub.nil
 intro k hk0
 refine zs<|zr<|zm R R<|zm R R<|XL.len R R R Tryz.underlying64 fun hl14=>zp (Aq R R R)<|zn<|?_
 refine zd R (fun c15=> ?_) (fun c15=> ?_)
 obtain ⟨y,hy⟩:∃y,l[k]? =some y:=Ap (by omega)
 refine zi<|zs<|Ai<|Af (by kernel_rfl)<|zm R R<|zm R R<|zm R R<|zp (Am R R R C9 (hy))<|zp (Aw R R Ah)<|zp (T2 R R R)<|za R R<|zn<|Af (by kernel_rfl)<|zm R R<|?_
 refine zp (Ak R R R (by omega) (by omega))<|za R R<|zn<|?_
 exact Al (k+1) (by omega) (by omega) (fz ⟨sr,sr, .same (sI (by rw [Aik hy (by omega)])),sr,trivial⟩) (HSub.nil)
 have ht:l.take k=l:=List.take_of_length_le (by omega)
 exact At<|zr<|zm R R<|za R R<|zn<|zt<|z1 R R (rI (by rw [ht]))
theorem Am5 (l:List Int) (h:0<l.length):XC Tryz.prog 174 [.sl 1 (B4 l)] (fun r=>r=dI (He l)):=by
 refine Ao Zz Tryz.func174 R R lb<|zr<|za R R<|zn<|zs<|zr<|zm R R<|XL.len R R R Tryz.underlying64 fun hl6=>zp (Aq R R R)<|zn<|?_
 refine zd R (fun c7=> ?_) (fun c7=> ?_)
 exfalso;omega
 refine zi<|zs<|?_
 obtain ⟨x,hx⟩:∃x,l[0]? =some x:=Ap h
 refine Af (by kernel_rfl)<|zm R R<|zp (Am (k:=0) R R R C9 (hx))<|zp (Aw R R Ah)<|za R R<|zn<|zs<|zr<|za R R<|zn<|Ai<|?_
 refine Av (α:=Nat) (fun k=>1≤k∧k≤l.length) (fun k=>mkF [(0, .d (.sl 1 (B4 l))),(2, .d (dI 0)),(3, .d (dI (He (l.take k)))),(4, .d (dI k))]) (fun k=>mkH []) (fun k=>l.length - k) (1) (⟨Nat.le_refl _,h⟩) ?_ ?_ ?_
 exact fz ⟨sr,sr, .same (sI (Yr hx).2.symm),sr,trivial⟩
 exact HSub.nil
 intro k hk0
 refine zs<|zr<|zm R R<|zm R R<|XL.len R R R Tryz.underlying64 fun hl14=>zp (Aq R R R)<|zn<|?_
 refine zd R (fun c15=> ?_) (fun c15=> ?_)
 obtain ⟨y,hy⟩:∃y,l[k]? =some y:=Ap (by omega)
 refine zi<|zs<|Ai<|Af (by kernel_rfl)<|zm R R<|zm R R<|zm R R<|zp (Am R R R C9 (hy))<|zp (Aw R R Ah)<|zp (T3 R R R)<|za R R<|zn<|Af (by kernel_rfl)<|zm R R<|?_
 refine zp (Ak R R R (by omega) (by omega))<|za R R<|zn<|?_
 exact Al (k+1) (by omega) (by omega) (fz ⟨sr,sr, .same (sI (by rw [Ail hy (by omega)])),sr,trivial⟩) (HSub.nil)
 have ht:l.take k=l:=List.take_of_length_le (by omega)
 exact At<|zr<|zm R R<|za R R<|zn<|zt<|z1 R R (rI (by rw [ht]))
def Ji (v:Int) (k:Nat):List Int→Int
 | []=> -1
 |x::r=>if v=x then k else Ji v (k+1) r
theorem Aiz {v x:Int} {l:List Int} {k:Nat} (h:l[k]? =some x) (hv:v=x):Ji v k (l.drop k)=k:=by rw [Cj h,Ji,if_pos hv]
theorem Agg {v x:Int} {l:List Int} {k:Nat} (h:l[k]? =some x) (hv:¬v=x):Ji v k (l.drop k)=Ji v (k+1) (l.drop (k+1)):=by rw [Cj h,Ji,if_neg hv]
theorem Aiy (v:Int) (l:List Int):∀k,0≤Ji v k l↔v∈l:=by
 induction l with
 |nil=>intro k;simp [Ji]
 |cons x r ih=>
  intro k
  rw [Ji]
  split
  ·rename_i h;simp [h]
  ·rename_i h;rw [ih,List.mem_cons];exact ⟨.inr,fun k=>k.elim (fun e=>absurd e h) fun e=>e⟩
theorem Aht (l:List Int) (v:Int):XC Tryz.prog 187 [.sl 1 (B4 l), .v (.int .i64 v)] (fun r=>r=dI (Ji v 0 l)):=by
 refine Ao Zo Tryz.func187 R R lb<|zr<|za R R<|zn<|zs<|zr<|zm R R<|XL.len R R R Tryz.underlying64 fun hl7=>zm R R<|zn<|Ai<|?_
 refine Av (α:=Nat) (fun k=>k≤l.length∧Ji v k (l.drop k)=Ji v 0 l) (fun k=>mkF [(0, .d (.sl 1 (B4 l))),(1, .d (dI v)),(7, .d (dI l.length)),(8, .d (dI k))]) (fun k=>mkH []) (fun k=>l.length - k) (0) (⟨Nat.zero_le _,by rw [List.drop_zero]⟩) ?_ ?_ ?_
 exact fz ⟨sr,sr,sr,sr,trivial⟩
 exact HSub.nil
 intro k hk0
 obtain ⟨hk,hgo⟩:=hk0
 refine zr<|zp (Aq R R R)<|zn<|zs<|?_
 refine zd R (fun c9=> ?_) (fun c9=> ?_)
 have hk0a:k<l.length:=by omega
 obtain ⟨x0,hx0⟩:=Ap hk0a
 refine zi<|zs<|Ai<|zr<|zm R R<|za R R<|znr<|zm R R<|zm R R<|zm R R<|zp (Am R R R C9 hx0)<|zp (Aw R R Ah)<|zp (Az R R R)<|zn<|?_
 refine zd R (fun c16=> ?_) (fun c16=> ?_)
 exact zr<|zm R R<|za R R<|zn<|zt<|z1 R R (rI (by rw [←hgo,Aiz hx0 c16]))
 refine zi<|Af (by kernel_rfl)<|zp (Ak R R R (by omega) (by omega))<|zm R R<|zn<|?_
 exact Al (k+1) (⟨by omega,by rw [←Agg hx0 c16];exact hgo⟩) (by omega) (fz ⟨sr,sr,sr,sr,trivial⟩) (HSub.nil)
 have hk0b:k=l.length:=by omega
 have hz:Ji v 0 l= -1:=by rw [←hgo,hk0b,List.drop_length];rfl
 exact At<|zr<|za R R<|zn<|zt<|z1 R R (rI hz.symm)
theorem Mr (l:List Int) (v:Int):XC Tryz.prog 175 [.sl 1 (B4 l), .v (.int .i64 v)] (fun r=>r=dB (decide (v∈l))):=by
 exact Ao Zy Tryz.func175 R R lb<|zr<|za R R<|znr<|zm R R<|zm R R<|XL.call1 R R (Aht _ _) R<|zp (E4 R R R)<|za R R<|zn<|zt<|z1 R R (rB (by rw [decide_eq_decide];exact Aiy v l 0))
end Go.Proofs.YtcihalbakenleaaGreat
namespace Go.Proofs.YtcihalbakenleaaGreat
open Go.RowKit
mutual
def S.frp (i:Nat) (x:List D):S→S
  | .any=> .any
  | .d y=> .d y
  | .ptr j k off=>bif Nat.beq i j then (bif Nat.beq k 0 then .d (.pt (x.drop off)) else .any) else .ptr j k off
  | .own j=> .own j
  | .sub j a b=> .sub j a b
  | .agg l=> .agg (S.frpL i x l)
  | .fn f a c=> .fn f (S.frpL i x a) (S.frpL i x c)
  | .tup l=> .tup (S.frpL i x l)
def S.frpL (i:Nat) (x:List D):List S→List S
  | []=> []
  |s::l=>S.frp i x s::S.frpL i x l
end
theorem S.frpL_length (i:Nat) (x:List D) (l:List S):(S.frpL i x l).length=l.length:=by
  induction l with
  |nil=>rfl
  |cons a l ih=>simp [S.frpL,ih]
theorem S.frpL_get (i:Nat) (x:List D) (l:List S) (j:Nat):(S.frpL i x l)[j]? =(l[j]?).map (S.frp i x):=by
  induction l generalizing j with
  |nil=>rfl
  |cons a l ih=>
    cases j with
    |zero=>rfl
    |succ j=>simpa [S.frpL] using ih j
theorem VS.frp {H:Hp} {β:Bt} {u:Value} {s:S} (hs:VS H β u s) (i:Nat) (x:List D) (hx:∀L,β i=some L→∀off,VD H (.pointer (some ⟨L.b,off,none⟩)) (.pt (x.drop off))):VS H β u (s.frp i x):=by
  induction hs with
  |any u=>unfold S.frp;exact .any u
  |d h=>unfold S.frp;exact .d h
  | @ptr j L k off h=>
    unfold S.frp
    by_cases e:i=j
    · subst e
      rw [B1,cond_true]
      by_cases e2:k=0
      · subst e2
        rw [B1,cond_true,Nat.zero_mul,Nat.zero_add]
        exact .d (hx _ h off)
      · rw [B9 e2,cond_false];exact .any _
    · rw [B9 e];exact .ptr k off h
  |own h=>unfold S.frp;exact .own h
  |sub a b h hv hab hn=>unfold S.frp;exact .sub a b h hv hab hn
  |agg cs l e h ih=>
    unfold S.frp
    refine .agg cs _ (by rw [S.frpL_length];exact e) fun j y s hy hs=> ?_
    rw [S.frpL_get] at hs
    cases hl:l[j]? with
    |none=>rw [hl] at hs;simp at hs
    |some s'=>rw [hl] at hs;simp at hs;subst hs;exact ih j y s' hy hl
  |fn f A C a c ha hc h h' ih ih'=>
    unfold S.frp
    refine .fn f A C _ _ (by rw [S.frpL_length];exact ha) (by rw [S.frpL_length];exact hc) (fun j y s hy hs=> ?_) (fun j y s hy hs=> ?_)
    · rw [S.frpL_get] at hs
      cases hl:a[j]? with
      |none=>rw [hl] at hs;simp at hs
      |some s'=>rw [hl] at hs;simp at hs;subst hs;exact ih j y s' hy hl
    · rw [S.frpL_get] at hs
      cases hl:c[j]? with
      |none=>rw [hl] at hs;simp at hs
      |some s'=>rw [hl] at hs;simp at hs;subst hs;exact ih' j y s' hy hl
  |tup cs l e h ih=>
    unfold S.frp
    refine .tup cs _ (by rw [S.frpL_length];exact e) fun j y s hy hs=> ?_
    rw [S.frpL_get] at hs
    cases hl:l[j]? with
    |none=>rw [hl] at hs;simp at hs
    |some s'=>rw [hl] at hs;simp at hs;subst hs;exact ih j y s' hy hl
def S.frpG (i:Nat) (x:List D):List (Nat × S)→List (Nat × S)
  | []=> []
  |(t,s)::l=>(t,s.frp i x)::S.frpG i x l
theorem S.frpG_mem {i:Nat} {x:List D} {l:List (Nat × S)} {t:Nat} {s:S} (h:(t,s)∈S.frpG i x l):∃s',(t,s')∈l∧s=s'.frp i x:=by
  induction l with
  |nil=>cases h
  |cons a l ih=>
    obtain ⟨t',s'⟩:=a
    rcases List.mem_cons.1 h with e|e
    · cases e;exact ⟨s',List.mem_cons_self,rfl⟩
    · obtain ⟨s2,h1,h2⟩:=ih e;exact ⟨s2,List.mem_cons_of_mem _ h1,h2⟩
def XO.frp (i:Nat) (x:List D):XO→XO
  | .box l=> .box (S.frpL i x l)
  | .row e sz l=> .row e sz l
  | .rowS e sz l=> .rowS e sz (l.map (S.frpL i x))
  | .ghost u l=> .ghost u (S.frpG i x l)
theorem XO.isG_frp (i:Nat) (x:List D) (o:XO):(o.frp i x).isG=o.isG:=by cases o<;>rfl
def Xh.frp (h:Xh) (i:Nat) (x:List D):Xh:=fun j=>bif Nat.beq i j then none else (h j).map (XO.frp i x)
def Ap7 (f:Fr) (i:Nat) (x:List D):Fr:=fun j=>(f j).frp i x
theorem FV.frp {n:Nat} {H:Hp} {β:Bt} {a:Act} {f:Fr} (hf:FV n H β a f) (i:Nat) (x:List D) (hx:∀L,β i=some L→∀off,VD H (.pointer (some ⟨L.b,off,none⟩)) (.pt (x.drop off))):FV n H β a (Ap7 f i x):=
  ⟨hf.defers,hf.size,fun t ht=>(hf.slot t ht).frp i x hx⟩
theorem XO.blk_frp (L:Loc) (i:Nat) (x:List D) (o:XO):(o.frp i x).blk L=o.blk L:=by cases o<;>rfl
theorem OKo.frp {base:Nat} {w:World} {H:Hp} {β:Bt} {L:Loc} {o:XO} (h:OKo base w H β L o) (i:Nat) (x:List D) (hx:∀L,β i=some L→∀off,VD H (.pointer (some ⟨L.b,off,none⟩)) (.pt (x.drop off))):OKo base w H β L (o.frp i x):=by
  cases o with
  |box l=>
    obtain ⟨h1,h0,us,t,h2,h3,h4⟩:=h
    refine ⟨h1,by rw [S.frpL_length];exact h0,us,t,h2,by rw [S.frpL_length];exact h3,fun j u s hu hs=> ?_⟩
    rw [S.frpL_get] at hs
    cases hl:l[j]? with
    |none=>rw [hl] at hs;simp at hs
    |some s'=>rw [hl] at hs;simp at hs;subst hs;exact (h4 j u s' hu hl).frp i x hx
  |row e sz l=>exact h
  |rowS e sz l=>
    obtain ⟨h0,hz,hv,us,h2,h3,h4⟩:=h
    refine ⟨h0,fun y hy=> ?_,hv,us,by rw [List.length_map];exact h2,h3,fun k j y s hy hs=> ?_⟩
    · obtain ⟨z,hz',rfl⟩:=List.mem_map.1 hy
      rw [S.frpL_length];exact hz z hz'
    · rw [List.getElem?_map] at hy
      cases hl:l[k]? with
      |none=>rw [hl] at hy;simp at hy
      |some z=>
        rw [hl] at hy;simp at hy;subst hy
        rw [S.frpL_get] at hs
        cases hq:z[j]? with
        |none=>rw [hq] at hs;simp at hs
        |some s'=>
          rw [hq] at hs;simp at hs;subst hs
          obtain ⟨u,hu,hv⟩:=h4 k j z s' hl hq
          exact ⟨u,hu,hv.frp i x hx⟩
  |ghost u l=>
    intro t s hm
    obtain ⟨s',h1,rfl⟩:=S.frpG_mem hm
    exact (h t s' h1).frp i x hx
theorem Sim.shareP {E:Env} {H:Hp} {β:Bt} {h:Xh} {w:World} (s:Sim E H β h w) {i:Nat} {o:XO} {L:Loc} (ho:h i=some o) (hL:β i=some L) {g:Nat} (hg:o.blk L=some g)
    (us:Nat→Option Value) (hus:∀k u,us k=some u→w.cell? ⟨g,k,none⟩=some u∧u.oneCell'=true) (x:List D)
    (hx:∀off,VD (H.plus g us) (.pointer (some ⟨L.b,off,none⟩)) (.pt (x.drop off))):Sim E (H.plus g us) β (h.frp i x) w:=by
  have hx':∀L',β i=some L'→∀off,VD (H.plus g us) (.pointer (some ⟨L'.b,off,none⟩)) (.pt (x.drop off)):=fun L' e=>by rw [hL] at e;cases e;exact hx
  have aux:∀j o',h.frp i x j=some o'→i≠j∧∃o1,h j=some o1∧o'=o1.frp i x:=by
    intro j o' e
    unfold Xh.frp at e
    by_cases hij:i=j
    · subst hij;rw [B1] at e;cases e
    · rw [B9 hij] at e
      cases hj:h j with
      |none=>rw [hj] at e;cases e
      |some o1=>rw [hj] at e;cases e;exact ⟨hij,o1,rfl,rfl⟩
  have hgl:=(s.obj i o L ho hL).lt hg
  refine ⟨s.below,s.ext.trans (Hp.plus_le _ _ _),fun b k u e=> ?_,fun b k u e=> ?_,fun j o' L' ho' hL'=> ?_,fun j o' L' ho' hL' b hb off=> ?_,fun j j' o1 o2 L1 L2 b hjj h1 h1' h2 h2' hb=> ?_,fun j o' ho' hg'=> ?_⟩
  rotate_left 5
  · obtain ⟨_,o1,h1,rfl⟩:=aux j o' ho'
    rw [XO.isG_frp] at hg'
    exact s.dom j o1 h1 hg'
  · rcases Hp.plus_new e with k1|⟨rfl,_⟩
    · exact s.new b k u k1
    · exact .inr hgl.1
  · rcases Hp.plus_new e with k1|⟨rfl,k2⟩
    · exact s.imm b k u k1
    · exact hus k u k2
  · obtain ⟨_,o1,h1,rfl⟩:=aux j o' ho'
    exact ((s.obj j o1 L' h1 hL').keep (Hp.plus_le _ _ _) (fun _ _ h=>h) fun _ _=>rfl).frp i x hx'
  · obtain ⟨hij,o1,h1,rfl⟩:=aux j o' ho'
    rw [XO.blk_frp] at hb
    cases e:H.plus g us b off with
    |none=>rfl
    |some u=>
      rcases Hp.plus_new e with k1|⟨rfl,_⟩
      · rw [s.sep j o1 L' h1 hL' b hb off] at k1;cases k1
      · exact absurd hb (s.inj i j o o1 L L' b hij ho h1 hL hL' hg)
  · obtain ⟨_,o3,h3,rfl⟩:=aux j o1 h1
    obtain ⟨_,o4,h4,rfl⟩:=aux j' o2 h1'
    rw [XO.blk_frp] at hb ⊢
    exact s.inj j j' o3 o4 L1 L2 b hjj h3 h4 h2 h2' hb
theorem Sim.freezeP {E:Env} {H:Hp} {β:Bt} {h:Xh} {w:World} (s:Sim E H β h w) {i:Nat} {l:List S} {ds:List D} (ho:h i=some (.box l)) (hd:Jn l=some ds) (h1:l.all (Fn h)=true):
    ∃H',H.le H'∧(∀L,β i=some L→∀off,VD H' (.pointer (some ⟨L.b,off,none⟩)) (.pt (ds.drop off)))∧Sim E H' β (h.frp i ds) w:=by
  have hl:=Jm hd
  cases hL:β i with
  |none=>
    refine ⟨H,Hp.le.refl _,(fun L e=>by cases e), ?_⟩
    have hx:∀L,β i=some L→∀off,VD H (.pointer (some ⟨L.b,off,none⟩)) (.pt (ds.drop off)):=fun L e=>by rw [hL] at e;cases e
    have aux:∀j o',h.frp i ds j=some o'→∃o1,h j=some o1∧o'=o1.frp i ds:=by
      intro j o' e
      unfold Xh.frp at e
      by_cases hij:i=j
      · subst hij;rw [B1] at e;cases e
      · rw [B9 hij] at e
        cases hj:h j with
        |none=>rw [hj] at e;cases e
        |some o1=>rw [hj] at e;cases e;exact ⟨o1,rfl,rfl⟩
    refine ⟨s.below,s.ext,s.new,s.imm,fun j o' L' ho' hL'=> ?_,fun j o' L' ho' hL' b hb off=> ?_,fun j j' o1 o2 L1 L2 b hjj h1 h1' h2 h2' hb=> ?_,fun j o' ho' hg'=> ?_⟩
    · obtain ⟨o1,h1,rfl⟩:=aux j o' ho'
      exact (s.obj j o1 L' h1 hL').frp i ds hx
    · obtain ⟨o1,h1,rfl⟩:=aux j o' ho'
      rw [XO.blk_frp] at hb
      exact s.sep j o1 L' h1 hL' b hb off
    · obtain ⟨o3,h3,rfl⟩:=aux j o1 h1
      obtain ⟨o4,h4,rfl⟩:=aux j' o2 h1'
      rw [XO.blk_frp] at hb ⊢
      exact s.inj j j' o3 o4 L1 L2 b hjj h3 h4 h2 h2' hb
    · obtain ⟨o1,h1,rfl⟩:=aux j o' ho'
      rw [XO.isG_frp] at hg'
      exact s.dom j o1 h1 hg'
  |some L=>
    obtain ⟨hb,hsz,us,t,hheap,hus,hvs⟩:=s.obj i _ L ho hL
    have hblk:(XO.box l).blk L=some L.b:=rfl
    have hnone:=s.sep i _ L ho hL L.b hblk
    have hget:∀(j:Nat) (d:D),ds[j]? =some d→∃u,us[j]? =some u∧VD H u d:=by
      intro j d hj
      have hlj:l[j]? =some (.d d):=by rw [hl,List.getElem?_map,hj];rfl
      have hlt:j<us.size:=by rw [hus];exact (List.getElem?_eq_some_iff.1 hlj).1
      exact ⟨us[j],Array.getElem?_eq_getElem hlt,D5 (hvs j _ _ (Array.getElem?_eq_getElem hlt) hlj)⟩
    have hx:∀off,VD (H.plus L.b (us[·]?)) (.pointer (some ⟨L.b,off,none⟩)) (.pt (ds.drop off)):=by
      intro off
      refine .pt L.b off _ (fun j=>(us[off+j]?).getD undef) (fun j d hj=> ?_) (fun j d hj=> ?_)
      · rw [List.getElem?_drop] at hj
        obtain ⟨u,hu,_⟩:=hget _ _ hj
        rw [Hp.plus_at hnone,hu];rfl
      · rw [List.getElem?_drop] at hj
        obtain ⟨u,hu,hv⟩:=hget _ _ hj
        rw [hu]
        exact hv.mono (Hp.plus_le _ _ _)
    refine ⟨H.plus L.b (us[·]?),Hp.plus_le _ _ _,(fun L' e=>by cases e;exact hx),s.shareP ho hL hblk _ (fun k u hu=> ?_) _ hx⟩
    have hlt:k<l.length:=by rw [←hus];exact (Array.getElem?_eq_some_iff.1 hu).1
    refine ⟨by unfold World.cell?;simp only [hheap];simpa using hu,S8 s (hvs k u l[k] hu (List.getElem?_eq_getElem hlt)) (List.all_eq_true.1 h1 _ (List.getElem_mem hlt))⟩
section
variable {P:Program} {n:Nat} {ops:Array Oper} {rest:List Oper} {K:Do} {f:Fr} {h:Xh} {c:Code} {i:Nat} {l:List S} {ds:List D}
theorem XL.freezeP (i:Nat) {l:List S} {ds:List D} (ho:h i=some (.box l)) (hd:Jn l=some ds) (h1:l.all (Fn h)=true) (hc:XL P n ops rest K (Ap7 f i ds) (h.frp i ds)):XL P n ops rest K f h:=fun hin E H β a w hs hf=>by
  obtain ⟨H',h1,h2,h3⟩:=hs.freezeP ho hd h1
  exact hc hin E H' β a w h3 ((hf.mono h1 fun _ _ h=>h).frp i _ h2)
end
end Go.Proofs.YtcihalbakenleaaGreat
