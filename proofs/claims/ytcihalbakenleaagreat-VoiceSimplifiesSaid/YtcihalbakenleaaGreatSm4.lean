/- Part 4 of what the statements need: lemmas and walks. -/
import Derived.Test.YtcihalbakenleaaGreatSm3
set_option linter.unusedVariables false
set_option maxRecDepth 20000
set_option maxHeartbeats 8000000
namespace Go.Proofs.YtcihalbakenleaaGreat
open Go.RowKit
def Jo (f:Nat→Int) (n k:Nat):List Int:=(List.range n).map fun j=>if j<k then f j else 0
theorem W5 (f:Nat→Int) (n k:Nat):(Jo f n k).length=n:=by rw [Jo,List.length_map,List.length_range]
theorem Ah3 (f:Nat→Int) (n:Nat):List.replicate n (0:Int)=Jo f n 0:=by
 rw [Jo]
 refine List.ext_getElem? fun j=> ?_
 rw [List.getElem?_replicate,List.getElem?_map]
 by_cases h:j<n
 ·rw [if_pos h,List.getElem?_range h,Option.map_some,if_neg (by omega)]
 ·rw [if_neg h,List.getElem?_eq_none (by rw [List.length_range];omega)];rfl
theorem Aki {f:Nat→Int} {n k:Nat} (hk:k<n):Jo f n (k+1)=(Jo f n k).set k (f k):=by
 refine List.ext_getElem? fun j=> ?_
 rw [List.getElem?_set]
 split
 ·rename_i h
  subst h
  rw [if_pos (by rw [W5];exact hk),Jo,List.getElem?_map,List.getElem?_range hk,Option.map_some,if_pos (by omega)]
 ·rename_i h
  rw [Jo,Jo,List.getElem?_map,List.getElem?_map]
  by_cases hj:j<n
  ·rw [List.getElem?_range hj,Option.map_some,Option.map_some]
   congr 1
   by_cases e:j<k
   ·rw [if_pos e,if_pos (by omega)]
   ·rw [if_neg e,if_neg (by omega)]
  ·rw [List.getElem?_eq_none (by rw [List.length_range];omega)];rfl
theorem Akj {f:Nat→Int} {n k:Nat} (hk:n≤k):Jo f n k=(List.range n).map f:=by
 rw [Jo]
 refine List.map_congr_left fun j hj=> ?_
 rw [if_pos (by have:=List.mem_range.1 hj;omega)]
def Mb (l:List Ev) (j:Nat):Int:=((l[j]?).map Ev.len).getD 0
theorem Amh {l:List Ev} {k:Nat} {e:Ev} (h:l[k]? =some e):Mb l k=e.len:=by rw [Mb,h];rfl
theorem Aj7 (l:List Ev):(List.range l.length).map (Mb l)=wrS l:=by
 refine List.ext_getElem? fun j=> ?_
 rw [List.getElem?_map,wrS,List.getElem?_map]
 by_cases hj:j<l.length
 ·rw [List.getElem?_range hj,Option.map_some,Mb,List.getElem?_eq_getElem hj];rfl
 ·rw [List.getElem?_eq_none (by rw [List.length_range];omega),List.getElem?_eq_none (by omega)];rfl
theorem Aco (l:List Ev) (hE:Evs l) (hlen:l.length≤128):XC Tryz.prog 132 [.sl 13 (l.map Ev.c)] (fun r=>r= .sl 1 (Bo (wrS l))):=by
 refine Ao Abj Tryz.func132 R R lb<|zr<|za R R<|znr<|zm R R<|XL.len R R R Tryz.underlying22 fun hl7=>XL.step R (Oh 8 (z:=(.int .i64 0)) (zs:= [dI 0]) (sz:=1) (bytes:=8) R R R Tryz.underlying64 (by kernel_rfl) (by kernel_rfl) (by kernel_rfl) (by decide) (by decide) (by omega) (by unfold maxLen;omega) (by omega))<|zp (Aq R (by conv=>lhs;whnf))<|?_
 refine zn<|zs<|zr<|zm R R<|XL.len R R R Tryz.underlying22 fun hl10=>zm R R<|zn<|Ag<|?_
 refine Ax (α:=Nat) (fun k=>k≤l.length) (fun k=>mkF [(2, .d (.v (.slice none 0 0))),(3, .own 8),(9, .d (.sl 13 (l.map Ev.c))),(10, .d (dI l.length)),(11, .d (dI k))]) (fun k=>mkH [(8, .row 3 1 ((Jo (Mb l) l.length k).map iv))]) (fun k=>l.length - k) (0) (Nat.zero_le _) ?_ ?_ ?_
 exact fz ⟨sr,sr,sr,sr,sr,trivial⟩
 exact gz ⟨by rw [←Ah3,List.map_replicate];rfl,trivial⟩
 intro k hk0
 refine zr<|zp (At R R R)<|zn<|zs<|?_
 refine zd R (fun c12=> ?_) (fun c12=> ?_)
 have hk0a:k<l.length:=by omega
 obtain ⟨x0,hx0⟩:=As hk0a
 have he:=hE x0 (List.mem_of_getElem? hx0)
 have hfl:=W5 (Mb l) l.length k
 obtain ⟨z,hz⟩:∃z,(Jo (Mb l) l.length k)[k]? =some z:=As (by omega)
 refine zi<|zs<|Ag<|zr<|zm R R<|zp (Ak R R R Cv hx0)<|zp (Ad (s':= .d (.agg (Ev.c x0))) (Ar R R A1 lb) (by kernel_rfl))<|XL.step R (A9 5 (l:= [.d (dI 0), .d (dI 0), .d (dI 0), .d (dI 0), .d (dI 0), .d (.v (.slice none 0 0)), .d (.v (.slice none 0 0)), .d (dI 0), .d (dI 0), .d (dI 0), .d (.v (.slice none 0 0)), .d (dI 0), .d (dI 0)]) R B3 (by kernel_rfl))<|?_
 refine za R R<|XL.step R (Ai (l':= [.d (dI x0.site), .d (dI x0.num), .d (dI x0.kind), .d (dI x0.v.log), .d (dI x0.v.dots), .d (.sl 5 (x0.heads.map Hd.c)), .d (.sl 5 (x0.graces.map Gr.c)), .d (dI x0.art), .d (dI x0.orn), .d (dI x0.dyn), .d (.sl 2 (x0.lyr.map Sy.c)), .d (dI x0.stem), .d (dI x0.beam)]) R R R R B4 R lb (by kernel_rfl))<|zng<|zp (Au R (by conv=>lhs;whnf))<|?_
 refine zm R R<|zp (Ad (s':= .d (.agg (Ev.c x0))) (Ae (Ac R R A1 R lb)) (by kernel_rfl))<|XL.call1 R R (Age _ (by assumption)) R<|zm R R<|zp (Bi R R R)<|zp (Bi R R R)<|zp (Kq R R R R C5 (by omega))<|XL.step R (Gd R R R (E8 hz) R R C0 R lb)<|zn<|Af (by kernel_rfl)<|zp (Al R R R (by omega) (by omega))<|zm R R<|zn<|?_
 exact Am (k+1) (by omega) (by omega) (fz ⟨sr,sr,sr,sr,sr,trivial⟩) (gz ⟨Qf (a:=Mb l k) (by rw [Amh hx0];rfl) (Aki hk0a),trivial⟩)
 have hk0b:k=l.length:=by omega
 have he:=Akj (f:=Mb l) (n:=l.length) (k:=k) (by omega)
 refine An<|zr<|zp (Au R (by conv=>lhs;whnf))<|?_
 refine zp (Aq R (by conv=>lhs;whnf))<|?_
 exact zn<|zt<|Bf (i:=8) R<|z1 R R (rSl (by rw [he,Aj7]))
def Vo.whole (v:Vo):Prop:=match v.evs with| []=>False|e::_=>e.kind=3
instance (v:Vo):Decidable v.whole:=by unfold Vo.whole;cases v.evs<;>exact inferInstance
theorem J4 {v:Vo} {e:Ev} (h:v.evs[0]? =some e):v.whole↔e.kind=3:=by
 unfold Vo.whole
 cases hv:v.evs with
 |nil=>rw [hv] at h;cases h
 |cons x l=>rw [hv] at h;cases h;exact Iff.rfl
theorem Ak6 {v:Vo} (h:¬0<(v.evs.length:Int)):¬v.whole:=by
 unfold Vo.whole
 cases hv:v.evs with
 |nil=>exact fun h=>h
 |cons x l=>rw [hv] at h;simp at h
def Vo.absent (v:Vo):Prop:=v.evs.length=0∧v.tups.length=0
instance (v:Vo):Decidable v.absent:=by unfold Vo.absent;exact inferInstance
theorem Ak5 (v:Vo):XC Tryz.prog 87 [.agg (Vo.c v)] (fun r=>r=dB (decide v.whole)):=by
 refine Ao Adj Tryz.func87 R R lb<|zr<|XL.step R (Ay 1 (l:= [.d (.sl 13 (v.evs.map Ev.c)), .d (.sl 4 (v.tups.map Tp.c))]) R R (by kernel_rfl))<|za R R<|znr<|zp (Aa R R A0)<|zp (Ab R R Bl R R)<|XL.len R R R Tryz.underlying22 fun hl5=>zp (A6 R R R)<|zm R R<|?_
 refine XL.dec 7 R (fun g7=> ?_) (fun g7=> ?_)
 obtain ⟨e,he⟩:∃e,v.evs[0]? =some e:=As (by omega)
 exact zp (Aa R R A0)<|zp (Ab R R Bl R R)<|zp (Ak (k:=0) R R R Cv (he))<|zp (A7 R R Bq)<|zp (Aw R R Ah)<|zp (Az R R R)<|zq R R R<|za R R<|zn<|zt<|z1 R R (rB (by rw [decide_eq_decide];exact (J4 he).symm))
 exact zk 6 R<|zq R R R<|za R R<|zn<|zt<|z1 R R (rB (by rw [eq_comm,decide_eq_false_iff_not];exact Ak6 g7))
theorem Agi (v:Vo):XC Tryz.prog 47 [.agg (Vo.c v)] (fun r=>r=dB (decide v.absent)):=by
 refine Ao Aei Tryz.func47 R R lb<|zr<|XL.step R (Ay 1 (l:= [.d (.sl 13 (v.evs.map Ev.c)), .d (.sl 4 (v.tups.map Tp.c))]) R R (by kernel_rfl))<|za R R<|znr<|zp (Aa R R A0)<|zp (Ab R R Bl R R)<|XL.len R R R Tryz.underlying22 fun hl5=>zp (Az R R R)<|zm R R<|?_
 refine XL.dec 7 R (fun g7=> ?_) (fun g7=> ?_)
 exact zp (Aa R R B0)<|zp (Ab R R Bz R R)<|XL.len R R R Tryz.underlying23 fun hl10=>zp (Az R R R)<|zq R R R<|za R R<|zn<|zt<|z1 R R (rB (by rw [decide_eq_decide];unfold Vo.absent;omega))
 exact zk 4 R<|zq R R R<|za R R<|zn<|zt<|z1 R R (rB (by rw [eq_comm,decide_eq_false_iff_not];unfold Vo.absent;omega))
def Ep (n:Nat):Nat→List Ev→Int
 |_, []=>0
 |k,e::r=>if e.err≠0 then e.err else if e.kind=3∧(0<k∨1<n) then 11 else Ep n (k+1) r
def Fv (v:Vo):Int:=
 if Ep v.evs.length 0 v.evs≠0 then Ep v.evs.length 0 v.evs else if C2 v.tups (wrS v.evs)≠0 then C2 v.tups (wrS v.evs) else if Fy v.tups (wrS v.evs)≠0 then 21 else 0
def G7 (v:Vo):List Int:=if Fv v=0 then Hb v.tups (wrS v.evs) else []
theorem S6 {n k:Nat} {l:List Ev} {e:Ev} (h:l[k]? =some e) (he:e.err≠0):Ep n k (l.drop k)=e.err:=by rw [Ct h,Ep,if_pos he]
theorem Lq {n k:Nat} {l:List Ev} {e:Ev} (h:l[k]? =some e) (he:¬e.err≠0) (hk:e.kind=3∧(0<k∨1<n)):Ep n k (l.drop k)=11:=by rw [Ct h,Ep,if_neg he,if_pos hk]
theorem Nv {n k:Nat} {l:List Ev} {e:Ev} (h:l[k]? =some e) (he:¬e.err≠0) (hk:¬(e.kind=3∧(0<k∨1<n))):Ep n k (l.drop k)=Ep n (k+1) (l.drop (k+1)):=by rw [Ct h,Ep,if_neg he,if_neg hk]
theorem Nu {v:Vo} {e:Int} (he:e=Ep v.evs.length 0 v.evs) (hn:e≠0): []=G7 v∧e=Fv v:=by
 have e2:Fv v=e:=by rw [Fv, ←he,if_pos hn]
 exact ⟨by rw [G7,e2,if_neg hn],e2.symm⟩
theorem Ahq {v:Vo} (h:Ep v.evs.length 0 v.evs=0) (hn:C2 v.tups (wrS v.evs)≠0): []=G7 v∧C2 v.tups (wrS v.evs)=Fv v:=by
 have e2:Fv v=C2 v.tups (wrS v.evs):=by rw [Fv,if_neg (by omega),if_pos hn]
 exact ⟨by rw [G7,e2,if_neg hn],e2.symm⟩
theorem Ahp {v:Vo} (h:Ep v.evs.length 0 v.evs=0) (h2:¬C2 v.tups (wrS v.evs)≠0) (hn:Fy v.tups (wrS v.evs)≠0): []=G7 v∧21=Fv v:=by
 have e2:Fv v=21:=by rw [Fv,if_neg (by omega),if_neg h2,if_pos hn]
 exact ⟨by rw [G7,e2,if_neg (by decide)],e2.symm⟩
theorem Aho {v:Vo} (h:Ep v.evs.length 0 v.evs=0) (h2:¬C2 v.tups (wrS v.evs)≠0) (h3:¬Fy v.tups (wrS v.evs)≠0):Hb v.tups (wrS v.evs)=G7 v∧0=Fv v:=by
 have e2:Fv v=0:=by rw [Fv,if_neg (by omega),if_neg h2,if_neg h3]
 exact ⟨by rw [G7,e2,if_pos rfl],e2.symm⟩
theorem Zf (v:Vo) (hE:Evs v.evs) (hlen:v.evs.length≤128):XC Tryz.prog 88 [.agg (Vo.c v)] (fun r=>r= .tup [.sl 1 (Bo (G7 v)),dI (Fv v)]):=by
 refine Ao Adi Tryz.func88 R R lb<|zr<|XL.step R (Ay 1 (l:= [.d (.sl 13 (v.evs.map Ev.c)), .d (.sl 4 (v.tups.map Tp.c))]) R R (by kernel_rfl))<|za R R<|za R R<|zn<|zs<|zr<|zp (Aa R R A0)<|zp (Ab R R Bl R R)<|XL.len R R R Tryz.underlying22 fun hl14=>zm R R<|zn<|Ag<|?_
 refine Ax (α:=Nat) (fun k=>k≤v.evs.length∧Ep v.evs.length k (v.evs.drop k)=Ep v.evs.length 0 v.evs) (fun k=>mkF [(1, .ptr 1 0 0),(13, .d (.sl 13 (v.evs.map Ev.c))),(14, .d (dI v.evs.length)),(15, .d (dI k))]) (fun k=>mkH [(1, .box ((Vo.c v).map S.d))]) (fun k=>v.evs.length - k) (0) (⟨Nat.zero_le _,by rw [List.drop_zero]⟩) ?_ ?_ ?_
 exact fz ⟨sr,sr,sr,sr,trivial⟩
 exact gz ⟨R,trivial⟩
 intro k hk0
 obtain ⟨hk,hgo⟩:=hk0
 refine zr<|zp (At R R R)<|zn<|zs<|?_
 refine zd R (fun c16=> ?_) (fun c16=> ?_)
 have hk0a:k<v.evs.length:=by omega
 obtain ⟨x0,hx0⟩:=As hk0a
 have he:=hE x0 (List.mem_of_getElem? hx0)
 refine zi<|zs<|Ag<|zr<|zm R R<|zp (Ak R R R Cv hx0)<|zp (Ad (s':= .d (.agg (Ev.c x0))) (Ar R R A1 lb) (by kernel_rfl))<|XL.step R (A9 5 (l:= [.d (dI 0), .d (dI 0), .d (dI 0), .d (dI 0), .d (dI 0), .d (.v (.slice none 0 0)), .d (.v (.slice none 0 0)), .d (dI 0), .d (dI 0), .d (dI 0), .d (.v (.slice none 0 0)), .d (dI 0), .d (dI 0)]) R B3 (by kernel_rfl))<|?_
 refine za R R<|XL.step R (Ai (l':= [.d (dI x0.site), .d (dI x0.num), .d (dI x0.kind), .d (dI x0.v.log), .d (dI x0.v.dots), .d (.sl 5 (x0.heads.map Hd.c)), .d (.sl 5 (x0.graces.map Gr.c)), .d (dI x0.art), .d (dI x0.orn), .d (dI x0.dyn), .d (.sl 2 (x0.lyr.map Sy.c)), .d (dI x0.stem), .d (dI x0.beam)]) R R R R B4 R lb (by kernel_rfl))<|zn<|zs<|zr<|?_
 refine zp (Ad (s':= .d (.agg (Ev.c x0))) (Ae (Ac R R A1 R lb)) (by kernel_rfl))<|XL.call1 R R (Qz _ (by assumption)) R<|za R R<|znr<|zm R R<|zp (Bc R R R)<|zn<|?_
 refine zd R (fun c23=> ?_) (fun c23=> ?_)
 refine zr<|zm R R<|za R R<|za R R<|zn<|zt<|?_
 exact Bu R (RV.nil (sz:=1) R R) (RV.tmp R R) (r2 (rSl (Nu (by rw [←hgo,S6 hx0 c23]) c23).1) (rI (Nu (by rw [←hgo,S6 hx0 c23]) c23).2))
 refine zi<|zr<|zp (Aa R R Bq)<|zp (Ab R R Ah R R)<|zp (Az R R R)<|zm R R<|?_
 refine XL.dec 28 R (fun g28=> ?_) (fun g28=> ?_)
 refine zm R R<|zp (A6 R R R)<|zm R R<|?_
 refine XL.dec 31 R (fun g31=> ?_) (fun g31=> ?_)
 refine zk 4 R<|zq R R R<|zq R R R<|zn<|Ap (by kernel_rfl) R<|zr<|za R R<|za R R<|zn<|zt<|?_
 exact Bu R (RV.nil (sz:=1) R R) (RV.tmp R R) (r2 (rSl (Nu (e:=11) (by rw [←hgo,Lq hx0 c23 (by omega)]) (by decide)).1) (rI (Nu (by rw [←hgo,Lq hx0 c23 (by omega)]) (by decide)).2))
 refine zp (Aa R R A0)<|zp (Ab R R Bl R R)<|XL.len R R R Tryz.underlying22 fun hl34=>zp (A6 R R R)<|zq R R R<|zq R R R<|zn<|?_
 refine zd R (fun c37=> ?_) (fun c37=> ?_)
 refine zr<|za R R<|za R R<|zn<|zt<|?_
 exact Bu R (RV.nil (sz:=1) R R) (RV.tmp R R) (r2 (rSl (Nu (e:=11) (by rw [←hgo,Lq hx0 c23 (by omega)]) (by decide)).1) (rI (Nu (by rw [←hgo,Lq hx0 c23 (by omega)]) (by decide)).2))
 refine zi<|Af (by kernel_rfl)<|zp (Al R R R (by omega) (by omega))<|zm R R<|zn<|?_
 exact Am (k+1) (⟨by omega,by rw [←Nv hx0 c23 (by omega)];exact hgo⟩) (by omega) (fz ⟨sr,sr,sr,sr,trivial⟩) (gz ⟨rfl,trivial⟩)
 refine zk 8 R<|zq R R R<|zn<|A3 (by kernel_rfl) R<|zi<|Af (by kernel_rfl)<|zp (Al R R R (by omega) (by omega))<|zm R R<|zn<|?_
 exact Am (k+1) (⟨by omega,by rw [←Nv hx0 c23 (by omega)];exact hgo⟩) (by omega) (fz ⟨sr,sr,sr,sr,trivial⟩) (gz ⟨rfl,trivial⟩)
 have hk0b:k=v.evs.length:=by omega
 have hz:Ep v.evs.length 0 v.evs=0:=by rw [←hgo,hk0b,List.drop_length];rfl
 refine An<|zr<|zp (Aa R R A0)<|zp (Ab R R Bl R R)<|XL.call1 R R (Aco _ (by assumption) (by omega)) R<|za R R<|znr<|zp (Aa R R B0)<|zp (Ab R R Bz R R)<|zm R R<|XL.call1 R R (Ru _ _) R<|zm R R<|zp (Bi R R R)<|zp (Bi R R R)<|?_
 refine za R R<|za R R<|zn<|zs<|zr<|zm R R<|zp (Bc R R R)<|zn<|?_
 refine zd R (fun c50=> ?_) (fun c50=> ?_)
 refine zr<|zm R R<|za R R<|za R R<|zn<|zt<|?_
 exact Bu R (RV.nil (sz:=1) R R) (RV.tmp R R) (r2 (rSl (Ahq hz c50).1) (rI (Ahq hz c50).2))
 refine zi<|zs<|zr<|zp (Aa R R B0)<|zp (Ab R R Bz R R)<|zm R R<|XL.call1 R R (Ak8 _ _) R<|zm R R<|zp (Bi R R R)<|zp (Bi R R R)<|za R R<|za R R<|znr<|zm R R<|?_
 refine zp (Bc R R R)<|zn<|?_
 refine zd R (fun c60=> ?_) (fun c60=> ?_)
 refine zr<|za R R<|za R R<|zn<|zt<|?_
 exact Bu R (RV.nil (sz:=1) R R) (RV.tmp R R) (r2 (rSl (Ahp hz c50 c60).1) (rI (Ahp hz c50 c60).2))
 refine zi<|zr<|zm R R<|za R R<|za R R<|zn<|zt<|?_
 exact Bu R (RV.tmp R R) (RV.tmp R R) (r2 (rSl (Aho hz c50 c60).1) (rI (Aho hz c50 c60).2))
def B5 (v:Vo) (L:Int):Int:=
 if L<1∨15482880<L then 2 else if 128<v.evs.length then 9 else
 if v.whole∧v.evs.length=1 then (match v.evs with| []=>0|e::_=>if e.err≠0 then e.err else if 0<v.tups.length then 21 else 0) else Fv v
def C8 (v:Vo) (L:Int):List Int:=if B5 v L≠0 then [] else if v.whole∧v.evs.length=1 then [L] else G7 v
def ckE (v:Vo) (L:Int):Int:=if B5 v L=0∧0<(C8 v L).length∧tot (C8 v L)≠L then 20 else B5 v L
def ckL (v:Vo) (L:Int):List Int:=if ckE v L≠0 then [] else C8 v L
theorem Rk {v:Vo} {L:Int} (h:L<1∨15482880<L): []=C8 v L∧2=B5 v L:=by
 have e:B5 v L=2:=by rw [B5,if_pos h]
 exact ⟨by rw [C8,e,if_pos (by decide)],e.symm⟩
theorem Ahl {v:Vo} {L:Int} (h:¬L<1) (h':¬15482880<L) (h2:128<(v.evs.length:Int)): []=C8 v L∧9=B5 v L:=by
 have e:B5 v L=9:=by rw [B5,if_neg (by omega),if_pos (by omega)]
 exact ⟨by rw [C8,e,if_pos (by decide)],e.symm⟩
theorem Xt {v:Vo} {L:Int} (h:¬L<1) (h':¬15482880<L) (h2:¬128<(v.evs.length:Int)) (hw:v.whole) (h1:(v.evs.length:Int)=1) {e:Ev} (he:v.evs[0]? =some e):
  B5 v L=(if e.err≠0 then e.err else if 0<v.tups.length then 21 else 0):=by
 rw [B5,if_neg (by omega),if_neg (by omega),if_pos ⟨hw,by omega⟩]
 cases hv:v.evs with
 |nil=>rw [hv] at he;cases he
 |cons x l=>rw [hv] at he;cases he;rfl
theorem Ug {v:Vo} {L:Int} (h:¬L<1) (h':¬15482880<L) (h2:¬128<(v.evs.length:Int)) (hw:¬(v.whole∧(v.evs.length:Int)=1)):G7 v=C8 v L∧Fv v=B5 v L:=by
 have hw':¬(v.whole∧v.evs.length=1):=fun k=>hw ⟨k.1,by omega⟩
 have e:B5 v L=Fv v:=by rw [B5,if_neg (by omega),if_neg (by omega),if_neg hw']
 refine ⟨?_,e.symm⟩
 rw [C8,e,if_neg hw']
 split
 ·rename_i hn;rw [G7,if_neg hn]
 ·rfl
theorem Uh {v:Vo} {L a:Int} (h:B5 v L=a) (ha:a≠0): []=C8 v L∧a=B5 v L:=⟨by rw [C8,h,if_pos ha],h.symm⟩
theorem Aj5 {v:Vo} {L:Int} (h:B5 v L=0) (hw:v.whole) (h1:(v.evs.length:Int)=1): [L]=C8 v L∧0=B5 v L:=⟨by rw [C8,h,if_neg (by decide),if_pos ⟨hw,by omega⟩],h.symm⟩
theorem Ahk (v:Vo) (L:Int) (hE:Evs v.evs):XC Tryz.prog 71 [.agg (Vo.c v), .v (.int .i64 L)] (fun r=>r= .tup [.sl 1 (Bo (C8 v L)),dI (B5 v L)]):=by
 refine Ao Adw Tryz.func71 R R lb<|zr<|XL.step R (Ay 2 (l:= [.d (.sl 13 (v.evs.map Ev.c)), .d (.sl 4 (v.tups.map Tp.c))]) R R (by kernel_rfl))<|za R R<|za R R<|zn<|zs<|Ag<|zr<|zm R R<|zp (At R R R)<|zm R R<|?_
 refine XL.dec 10 R (fun g10=> ?_) (fun g10=> ?_)
 refine zk 2 R<|zq R R R<|za R R<|zn<|Ap (by kernel_rfl) R<|zr<|za R R<|za R R<|zn<|zt<|?_
 exact Bu R (RV.nil (sz:=1) R R) (RV.tmp R R) (r2 (rSl (Rk (v:=v) (by omega)).1) (rI (Rk (v:=v) (by omega)).2))
 refine zm R R<|zp (A6 R R R)<|zq R R R<|za R R<|zn<|?_
 refine zd R (fun c7=> ?_) (fun c7=> ?_)
 refine zr<|za R R<|za R R<|zn<|zt<|?_
 exact Bu R (RV.nil (sz:=1) R R) (RV.tmp R R) (r2 (rSl (Rk (v:=v) (by omega)).1) (rI (Rk (v:=v) (by omega)).2))
 refine zr<|zp (Aa R R A0)<|zp (Ab R R Bl R R)<|XL.len R R R Tryz.underlying22 fun hl17=>zp (A6 R R R)<|za R R<|zn<|?_
 refine zd R (fun c14=> ?_) (fun c14=> ?_)
 refine zr<|za R R<|za R R<|zn<|zt<|?_
 exact Bu R (RV.nil (sz:=1) R R) (RV.tmp R R) (r2 (rSl (Ahl g10 c7 c14).1) (rI (Ahl g10 c7 c14).2))
 refine zi<|zs<|zr<|zp (Ad (s':= .d (.agg (Vo.c v))) (Ae (Ac R R Bh R lb)) (by kernel_rfl))<|XL.call1 R R (Ak5 _) R<|zm R R<|?_
 refine XL.dec 21 R (fun g21=> ?_) (fun g21=> ?_)
 refine zp (Aa R R A0)<|zp (Ab R R Bl R R)<|XL.len R R R Tryz.underlying22 fun hl24=>zp (Az R R R)<|zq R R R<|zn<|?_
 refine zd R (fun c26=> ?_) (fun c26=> ?_)
 refine zs<|zs<|?_
 obtain ⟨e,hxe⟩:∃e,v.evs[0]? =some e:=As (by omega)
 have he:=hE e (List.mem_of_getElem? hxe)
 have hle:=Xt (L:=L) g10 c7 c14 g21 c26 hxe
 refine Af (by kernel_rfl)<|zp (Aa R R A0)<|zp (Ab R R Bl R R)<|zp (Ak (k:=0) R R R Cv (hxe))<|zp (Ad (s':= .d (.agg (Ev.c e))) (Ar R R A1 lb) (by kernel_rfl))<|XL.call1 R R (Qz _ (by assumption)) R<|za R R<|znr<|zm R R<|zp (Bc R R R)<|zn<|?_
 refine zd R (fun c33=> ?_) (fun c33=> ?_)
 refine zr<|zm R R<|za R R<|za R R<|zn<|zt<|?_
 exact Bu R (RV.nil (sz:=1) R R) (RV.tmp R R) (r2 (rSl (Uh (by rw [hle,if_pos c33]) c33).1) (rI (Uh (by rw [hle,if_pos c33]) c33).2))
 refine zi<|zs<|zr<|zp (Aa R R B0)<|zp (Ab R R Bz R R)<|XL.len R R R Tryz.underlying23 fun hl37=>zp (A6 R R R)<|zn<|?_
 refine zd R (fun c38=> ?_) (fun c38=> ?_)
 refine zr<|za R R<|za R R<|zn<|zt<|?_
 exact Bu R (RV.nil (sz:=1) R R) (RV.tmp R R) (r2 (rSl (Uh (a:=21) (by rw [hle,if_neg c33,if_pos (by omega)]) (by decide)).1) (rI (Uh (a:=21) (by rw [hle,if_neg c33,if_pos (by omega)]) (by decide)).2))
 refine zi<|zr<|zm R R<|XL.step R (Bj 40 R Tryz.underlying64 C0 Eu R R (by omega) (by omega))<|zp (Aq R (by conv=>lhs;whnf))<|?_
 refine za R R<|zn<|zt<|Bf (i:=40) R<|?_
 exact Bu R (RV.tmp R R) (RV.tmp R R) (r2 (rSl (l:= [L]) (g:=iv) (Aj5 (by rw [hle,if_neg c33,if_neg (by omega)]) g21 c26).1) (rI (Aj5 (by rw [hle,if_neg c33,if_neg (by omega)]) g21 c26).2))
 refine zi<|zr<|zp (Ad (s':= .d (.agg (Vo.c v))) (Ae (Ac R R Bh R lb)) (by kernel_rfl))<|XL.call1 R R (Zf _ (by assumption) (by omega)) R<|zp (Bi R R R)<|zp (Bi R R R)<|za R R<|za R R<|zn<|zt<|?_
 exact Bu R (RV.tmp R R) (RV.tmp R R) (r2 (rSl (Ug g10 c7 c14 (fun h=>c26 h.2)).1) (rI (Ug g10 c7 c14 (fun h=>c26 h.2)).2))
 refine zk 4 R<|zq R R R<|zn<|A3 (by kernel_rfl) R<|zi<|zr<|zp (Ad (s':= .d (.agg (Vo.c v))) (Ae (Ac R R Bh R lb)) (by kernel_rfl))<|XL.call1 R R (Zf _ (by assumption) (by omega)) R<|zp (Bi R R R)<|zp (Bi R R R)<|za R R<|za R R<|zn<|zt<|?_
 exact Bu R (RV.tmp R R) (RV.tmp R R) (r2 (rSl (Ug g10 c7 c14 (fun h=>g21 h.1)).1) (rI (Ug g10 c7 c14 (fun h=>g21 h.1)).2))
end Go.Proofs.YtcihalbakenleaaGreat
namespace Go.Proofs.YtcihalbakenleaaGreat
open Go.RowKit
theorem Apa {l:List Tp} {n:Int} (hT:Tups l n) (ws:List Int):∀i x,x∈C4 l i ws→0≤x∧x≤253671505920:=by
 induction ws with
 |nil=>intro i x h;cases h
 |cons w r ih=>
  intro i x h
  rw [C4] at h
  rcases List.mem_cons.1 h with e|e
  ·rw [e];exact Sk hT.ok (hT.hits i)
  ·exact ih _ _ e
theorem Ahb (l:List Tp) (ws:List Int):Nums (Hb l ws):=by
 unfold Hb
 split
 ·rename_i h
  have hT:=Kd (show ¬C2 l ws≠0 by omega)
  have hb:=hT.bd
  exact ⟨by rw [Il];omega,Apa hT ws 0⟩
 ·exact ⟨by simp,fun x h=>by cases h⟩
theorem S0:Nums []:=⟨by simp,fun x h=>by cases h⟩
theorem Ajs (v:Vo):Nums (G7 v):=by
 unfold G7
 split
 ·exact Ahb _ _
 ·exact S0
theorem Nr (v:Vo) (L:Int):Nums (C8 v L):=by
 unfold C8
 split
 ·exact S0
 ·rename_i h
  split
  ·refine ⟨by simp,fun x hx=> ?_⟩
   rw [List.mem_singleton.1 hx]
   unfold B5 at h
   split at h
   ·omega
   ·omega
  ·exact Ajs v
theorem K4 (v:Vo) (L:Int):Nums (ckL v L):=by
 unfold ckL
 split
 ·exact S0
 ·exact Nr v L
theorem Arz {v:Vo} {L:Int} (h0:B5 v L=0) (h1:0<((C8 v L).length:Int)) (h2:tot (C8 v L)≠L): []=ckL v L∧20=ckE v L:=by
 have e:ckE v L=20:=by rw [ckE,if_pos ⟨h0,by omega,h2⟩]
 exact ⟨by rw [ckL,e,if_pos (by decide)],e.symm⟩
theorem Aia {v:Vo} {L:Int} (h0:B5 v L=0) (h:¬(0<((C8 v L).length:Int)∧tot (C8 v L)≠L)):C8 v L=ckL v L∧0=ckE v L:=by
 have e:ckE v L=0:=by rw [ckE,if_neg (fun k=>h ⟨by omega,k.2.2⟩),h0]
 exact ⟨by rw [ckL,e,if_neg (by decide)],e.symm⟩
theorem Ary {v:Vo} {L:Int} (h:B5 v L≠0): []=ckL v L∧B5 v L=ckE v L:=by
 have e:ckE v L=B5 v L:=by rw [ckE,if_neg (fun k=>h k.1)]
 exact ⟨by rw [ckL,e,if_pos h],e.symm⟩
theorem Mg (v:Vo) (L:Int) (hE:Evs v.evs):XC Tryz.prog 68 [.agg (Vo.c v), .v (.int .i64 L)] (fun r=>r= .tup [.sl 1 (Bo (ckL v L)),dI (ckE v L)]):=by
 have hN:=Nr v L
 refine Ao Adz Tryz.func68 R R lb<|zr<|XL.step R (Ay 2 (l:= [.d (.sl 13 (v.evs.map Ev.c)), .d (.sl 4 (v.tups.map Tp.c))]) R R (by kernel_rfl))<|za R R<|za R R<|znr<|zp (Ad (s':= .d (.agg (Vo.c v))) (Ae (Ac R R Bh R lb)) (by kernel_rfl))<|zm R R<|XL.call1 R R (Ahk _ _ (by assumption)) R<|zm R R<|zp (Bi R R R)<|zp (Bi R R R)<|za R R<|za R R<|?_
 refine zn<|zs<|zr<|zm R R<|zp (Az R R R)<|zm R R<|?_
 refine XL.dec 16 R (fun g16=> ?_) (fun g16=> ?_)
 refine zm R R<|XL.len R R R Tryz.underlying64 fun hl18=>zp (A6 R R R)<|zq R R R<|zm R R<|?_
 refine XL.dec 21 R (fun g21=> ?_) (fun g21=> ?_)
 refine zm R R<|XL.call1 R R (X5 _ (by assumption)) R<|zm R R<|zp (Bc R R R)<|zq R R R<|zn<|?_
 refine zd R (fun c26=> ?_) (fun c26=> ?_)
 refine Af (by kernel_rfl)<|za R R<|zn<|zs<|zr<|zm R R<|zp (Bc R R R)<|zn<|?_
 refine zd R (fun c28=> ?_) (fun c28=> ?_)
 refine zr<|zm R R<|za R R<|za R R<|zn<|zt<|?_
 exact Bu R (RV.nil (sz:=1) R R) (RV.tmp R R) (r2 (rSl (Arz g16 g21 c26).1) (rI (Arz g16 g21 c26).2))
 refine zi<|zr<|zm R R<|za R R<|za R R<|zn<|zt<|?_
 exact Bu R (RV.tmp R R) (RV.tmp R R) (by exfalso;omega)
 refine zi<|zs<|zr<|zm R R<|zp (Bc R R R)<|zn<|?_
 refine zd R (fun c28=> ?_) (fun c28=> ?_)
 refine zr<|zm R R<|za R R<|za R R<|zn<|zt<|?_
 exact Bu R (RV.nil (sz:=1) R R) (RV.tmp R R) (by exfalso;omega)
 refine zi<|zr<|zm R R<|za R R<|za R R<|zn<|zt<|?_
 exact Bu R (RV.tmp R R) (RV.tmp R R) (r2 (rSl (Aia g16 (fun h=>c26 h.2)).1) (rI (Aia g16 (fun h=>c26 h.2)).2))
 refine zk 4 R<|zq R R R<|zn<|A3 (by kernel_rfl) R<|zi<|zs<|zr<|zm R R<|zp (Bc R R R)<|zn<|?_
 refine zd R (fun c28=> ?_) (fun c28=> ?_)
 refine zr<|zm R R<|za R R<|za R R<|zn<|zt<|?_
 exact Bu R (RV.nil (sz:=1) R R) (RV.tmp R R) (by exfalso;omega)
 refine zi<|zr<|zm R R<|za R R<|za R R<|zn<|zt<|?_
 exact Bu R (RV.tmp R R) (RV.tmp R R) (r2 (rSl (Aia g16 (fun h=>g21 h.1)).1) (rI (Aia g16 (fun h=>g21 h.1)).2))
 refine zk 3 R<|zq R R R<|zm R R<|zk 4 R<|zq R R R<|zn<|A3 (by kernel_rfl) R<|zi<|zs<|zr<|zm R R<|zp (Bc R R R)<|zn<|?_
 refine zd R (fun c28=> ?_) (fun c28=> ?_)
 refine zr<|zm R R<|za R R<|za R R<|zn<|zt<|?_
 exact Bu R (RV.nil (sz:=1) R R) (RV.tmp R R) (r2 (rSl (Ary g16).1) (rI (Ary g16).2))
 refine zi<|zr<|zm R R<|za R R<|za R R<|zn<|zt<|?_
 exact Bu R (RV.tmp R R) (RV.tmp R R) (by exfalso;omega)
theorem Aig (v:Vo) (L:Int) (hE:Evs v.evs):XC Tryz.prog 27 [.agg (Vo.c v), .v (.int .i64 L)] (fun r=>r= .tup [.sl 1 (Bo (ckL v L)),dI (ckE v L)]):=by
 refine Ao Aeq Tryz.func27 R R lb<|zr<|XL.step R (Ay 2 (l:= [.d (.sl 13 (v.evs.map Ev.c)), .d (.sl 4 (v.tups.map Tp.c))]) R R (by kernel_rfl))<|za R R<|za R R<|znr<|zp (Ad (s':= .d (.agg (Vo.c v))) (Ae (Ac R R Bh R lb)) (by kernel_rfl))<|zm R R<|XL.call1 R R (Mg _ _ (by assumption)) R<|zp (Bi R R R)<|zp (Bi R R R)<|za R R<|za R R<|zn<|?_
 refine zt<|?_
 exact Bu R (RV.tmp R R) (RV.tmp R R) (R)
theorem Ana (v:Vo) (L:Int) (hE:Evs v.evs):XC Tryz.prog 30 [.agg (Vo.c v), .v (.int .i64 L)] (fun r=>r=dI (ckE v L)):=by
 refine Ao Aep Tryz.func30 R R lb<|zr<|XL.step R (Ay 2 (l:= [.d (.sl 13 (v.evs.map Ev.c)), .d (.sl 4 (v.tups.map Tp.c))]) R R (by kernel_rfl))<|za R R<|znr<|zp (Ad (s':= .d (.agg (Vo.c v))) (Ae (Ac R R Bh R lb)) (by kernel_rfl))<|zm R R<|XL.call1 R R (Mg _ _ (by assumption)) R<|zm R R<|zp (Bi R R R)<|zp (Bi R R R)<|za R R<|za R R<|znr<|?_
 exact zm R R<|za R R<|zn<|zt<|z1 R R (R)
def atS (l:List Int) (t:Int):Nat→Int × Int
 |0=>(0,0)
 |k+1=>match l[k]? with
  |some x=>if tot (l.take k)≤t∧0<x then (k,tot (l.take k)) else atS l t k
  |none=>atS l t k
theorem Ur {l:List Int} {t x:Int} {k:Nat} (h:l[k]? =some x) (h1:tot (l.take k)≤t) (h2:0<x):atS l t (k+1)=((k:Int),tot (l.take k)):=by simp only [atS,h];rw [if_pos ⟨h1,h2⟩]
theorem Mq {l:List Int} {t x:Int} {k:Nat} (h:l[k]? =some x) (h1:¬(tot (l.take k)≤t∧0<x)):atS l t (k+1)=atS l t k:=by simp only [atS,h];rw [if_neg h1]
def atE (v:Vo) (L t:Int):Int:=if ckE v L≠0 then ckE v L else if (ckL v L).length=0 then 10 else if t<0∨L≤t then 2 else 0
def atV (v:Vo) (L t:Int):Int × Int:=if atE v L t≠0 then (0,0) else atS (ckL v L) t (ckL v L).length
theorem J6 {l:List Int} {k:Nat} {x:Int} (h:(D9 l)[k]? =some x):x=tot (l.take k):=by
 have hk:=(List.getElem?_eq_some_iff.1 h).1
 rw [D9,List.length_map,List.length_range] at hk
 rw [D9,List.getElem?_map,List.getElem?_range hk] at h
 cases h;rfl
theorem Sz (l:List Int):(D9 l).length=l.length:=by rw [D9,List.length_map,List.length_range]
theorem L6 {v:Vo} {L t a:Int} (h:atE v L t=a) (ha:a≠0):0=(atV v L t).1∧0=(atV v L t).2∧a=atE v L t:=by
 have e:atV v L t=(0,0):=by rw [atV,h,if_pos ha]
 rw [e];exact ⟨rfl,rfl,h.symm⟩
theorem Ach {v:Vo} {L t:Int} (h:ckE v L≠0):atE v L t=ckE v L:=by rw [atE,if_pos h]
theorem Acg {v:Vo} {L t:Int} (h:¬ckE v L≠0) (h2:((ckL v L).length:Int)=0):atE v L t=10:=by rw [atE,if_neg h,if_pos (by omega)]
theorem Tb {v:Vo} {L t:Int} (h:¬ckE v L≠0) (h2:¬((ckL v L).length:Int)=0) (h3:t<0∨L≤t):atE v L t=2:=by rw [atE,if_neg h,if_neg (by omega),if_pos h3]
theorem Aie {v:Vo} {L t:Int} (h:¬ckE v L≠0) (h2:¬((ckL v L).length:Int)=0) (h3:¬(t<0∨L≤t)):atS (ckL v L) t (ckL v L).length=atV v L t∧0=atE v L t:=by
 have e:atE v L t=0:=by rw [atE,if_neg h,if_neg (by omega),if_neg h3]
 exact ⟨by rw [atV,e,if_neg (by decide)],e.symm⟩
theorem As3 (v:Vo) (L t:Int) (hE:Evs v.evs):XC Tryz.prog 22 [.agg (Vo.c v), .v (.int .i64 L), .v (.int .i64 t)] (fun r=>r= .tup [dI (atV v L t).1,dI (atV v L t).2,dI (atE v L t)]):=by
 have hN:=K4 v L
 have hol:=Sz (ckL v L)
 refine Ao Aer Tryz.func22 R R lb<|zr<|XL.step R (Ay 3 (l:= [.d (.sl 13 (v.evs.map Ev.c)), .d (.sl 4 (v.tups.map Tp.c))]) R R (by kernel_rfl))<|za R R<|za R R<|za R R<|znr<|zp (Ad (s':= .d (.agg (Vo.c v))) (Ae (Ac R R Bh R lb)) (by kernel_rfl))<|zm R R<|XL.call1 R R (Mg _ _ (by assumption)) R<|zm R R<|zp (Bi R R R)<|zp (Bi R R R)<|za R R<|?_
 refine za R R<|zn<|zs<|Ag<|zr<|zm R R<|zp (Bc R R R)<|za R R<|zn<|?_
 refine zd R (fun c18=> ?_) (fun c18=> ?_)
 refine zr<|zm R R<|za R R<|za R R<|za R R<|zn<|zt<|?_
 exact U1 R (RV.tmp R R) (RV.tmp R R) (RV.tmp R R) (r3 (rI (L6 (t:=t) (Ach c18) c18).1) (rI (L6 (t:=t) (Ach c18) c18).2.1) (rI (L6 (t:=t) (Ach c18) c18).2.2))
 refine zr<|zm R R<|XL.len R R R Tryz.underlying64 fun hl24=>zp (Az R R R)<|za R R<|zn<|?_
 refine zd R (fun c22=> ?_) (fun c22=> ?_)
 refine zr<|za R R<|za R R<|za R R<|zn<|zt<|?_
 exact U1 R (RV.tmp R R) (RV.tmp R R) (RV.tmp R R) (r3 (rI (L6 (t:=t) (Acg c18 c22) (by decide)).1) (rI (L6 (t:=t) (Acg c18 c22) (by decide)).2.1) (rI (L6 (t:=t) (Acg c18 c22) (by decide)).2.2))
 refine zr<|zm R R<|zp (At R R R)<|zm R R<|?_
 refine XL.dec 29 R (fun g29=> ?_) (fun g29=> ?_)
 refine zk 3 R<|zq R R R<|za R R<|zn<|Ap (by kernel_rfl) R<|zr<|za R R<|za R R<|za R R<|zn<|zt<|?_
 exact U1 R (RV.tmp R R) (RV.tmp R R) (RV.tmp R R) (r3 (rI (L6 (Tb c18 c22 (by omega)) (by decide)).1) (rI (L6 (Tb c18 c22 (by omega)) (by decide)).2.1) (rI (L6 (Tb c18 c22 (by omega)) (by decide)).2.2))
 refine zm R R<|zm R R<|zp (Ec R R R)<|zq R R R<|za R R<|zn<|?_
 refine zd R (fun c26=> ?_) (fun c26=> ?_)
 refine zr<|za R R<|za R R<|za R R<|zn<|zt<|?_
 exact U1 R (RV.tmp R R) (RV.tmp R R) (RV.tmp R R) (r3 (rI (L6 (Tb c18 c22 (by omega)) (by decide)).1) (rI (L6 (Tb c18 c22 (by omega)) (by decide)).2.1) (rI (L6 (Tb c18 c22 (by omega)) (by decide)).2.2))
 refine zi<|zs<|zr<|zm R R<|XL.call1 R R (Ajp _ (by assumption)) R<|XL.len R R R Tryz.underlying64 fun hl36=>zm R R<|zn<|Ag<|?_
 refine Ax (α:=Nat) (fun k=>k≤(D9 (ckL v L)).length) (fun k=>mkF [(2, .d (dI t)),(6, .d (dI (atS (ckL v L) t k).1)),(7, .d (dI (atS (ckL v L) t k).2)),(8, .d (dI (ckE v L))),(9, .d (.sl 1 (Bo (ckL v L)))),(35, .d (.sl 1 (Bo (D9 (ckL v L))))),(36, .d (dI (D9 (ckL v L)).length)),(37, .d (dI k))]) (fun k=>mkH []) (fun k=>(D9 (ckL v L)).length - k) (0) (Nat.zero_le _) ?_ ?_ ?_
 exact fz ⟨sr,sr,sr,sr,sr,sr,sr,sr,trivial⟩
 exact HSub.nil
 intro k hk1
 refine zr<|zp (At R R R)<|zn<|zs<|?_
 refine zd R (fun c38=> ?_) (fun c38=> ?_)
 have hk1a:k<(D9 (ckL v L)).length:=by omega
 obtain ⟨x1,hx1⟩:=As hk1a
 have hxe:=J6 hx1
 obtain ⟨y,hy⟩:∃y,(ckL v L)[k]? =some y:=As (by omega)
 refine zi<|zs<|Ag<|zr<|zm R R<|zp (Ak R R R C5 hx1)<|zp (Aw R R Ah)<|za R R<|za R R<|znr<|zm R R<|zm R R<|zp (Fl R R R)<|zm R R<|?_
 refine XL.dec 45 R (fun g45=> ?_) (fun g45=> ?_)
 refine zm R R<|zm R R<|zp (Ak R R R C5 (hy))<|zp (Aw R R Ah)<|zp (A6 R R R)<|zq R R R<|zn<|?_
 refine zd R (fun c51=> ?_) (fun c51=> ?_)
 refine Af (by kernel_rfl)<|zm R R<|zm R R<|za R R<|za R R<|zn<|Af (by kernel_rfl)<|zp (Al R R R (by omega) (by omega))<|zm R R<|zn<|?_
 exact Am (k+1) (by omega) (by omega) (fz ⟨sr, .same (sI (by rw [Ur hy (by rw [←J6 hx1];exact g45) c51])), .same (sI (by rw [Ur hy (by rw [←J6 hx1];exact g45) c51];exact J6 hx1)),sr,sr,sr,sr,sr,trivial⟩) (HSub.nil)
 refine zi<|Af (by kernel_rfl)<|zp (Al R R R (by omega) (by omega))<|zm R R<|zn<|?_
 exact Am (k+1) (by omega) (by omega) (fz ⟨sr, .same (sI (by rw [Mq hy (fun h=>c51 h.2)])), .same (sI (by rw [Mq hy (fun h=>c51 h.2)])),sr,sr,sr,sr,sr,trivial⟩) (HSub.nil)
 refine zk 5 R<|zq R R R<|zn<|A3 (by kernel_rfl) R<|zi<|Af (by kernel_rfl)<|zp (Al R R R (by omega) (by omega))<|zm R R<|zn<|?_
 exact Am (k+1) (by omega) (by omega) (fz ⟨sr, .same (sI (by rw [Mq hy (fun h=>g45 (by rw [J6 hx1];exact h.1))])), .same (sI (by rw [Mq hy (fun h=>g45 (by rw [J6 hx1];exact h.1))])),sr,sr,sr,sr,sr,trivial⟩) (HSub.nil)
 have hk1b:k=(D9 (ckL v L)).length:=by omega
 have hke:k=(ckL v L).length:=by omega
 refine An<|zr<|zm R R<|zm R R<|za R R<|za R R<|za R R<|zn<|zt<|?_
 exact U1 R (RV.tmp R R) (RV.tmp R R) (RV.tmp R R) (r3 (rI (by rw [hke,(Aie c18 c22 (by omega)).1])) (rI (by rw [hke,(Aie c18 c22 (by omega)).1])) (rI (Aie c18 c22 (by omega)).2))
end Go.Proofs.YtcihalbakenleaaGreat
namespace Go.Proofs.YtcihalbakenleaaGreat
open Go.RowKit
set_option maxRecDepth 4000
set_option maxHeartbeats 4000000 in
theorem Af8 (d:Nat) (w:World) (a0 a1 a2 a3 a4 a5 b0 b1 b2 b3 b4 b5:Int):(Op.equalIn (d+2) 26 (.agg #[.int .i64 a0, .int .i64 a1, .int .i64 a2, .int .i64 a3, .int .i64 a4, .int .i64 a5]) (.agg #[.int .i64 b0, .int .i64 b1, .int .i64 b2, .int .i64 b3, .int .i64 b4, .int .i64 b5])).run Tryz.prog w=
  .ok (decide (a0=b0∧a1=b1∧a2=b2∧a3=b3∧a4=b4∧a5=b5)) w:=by
 rw [show d+2=(d+1)+1 from rfl]
 have hp:∀(cs:Array Value) (k:Nat) (v:Value),cs[k]? =some v→(part 3 cs k).run Tryz.prog w= .ok v w:=fun cs k v h=>Di Ah w h
 have he:∀a b:Int,(Op.equalIn (d+1) 3 (.int .i64 a) (.int .i64 b)).run Tryz.prog w= .ok (decide (a=b)) w:=fun a b=>F5 d 3 Tryz.underlying3 a b
 have ha0:=hp (#[.int .i64 a0, .int .i64 a1, .int .i64 a2, .int .i64 a3, .int .i64 a4, .int .i64 a5]) ((0)*1) (.int .i64 a0) rfl
 have hb0:=hp (#[.int .i64 b0, .int .i64 b1, .int .i64 b2, .int .i64 b3, .int .i64 b4, .int .i64 b5]) ((0)*1) (.int .i64 b0) rfl
 have ha1:=hp (#[.int .i64 a0, .int .i64 a1, .int .i64 a2, .int .i64 a3, .int .i64 a4, .int .i64 a5]) ((0+1)*1) (.int .i64 a1) rfl
 have hb1:=hp (#[.int .i64 b0, .int .i64 b1, .int .i64 b2, .int .i64 b3, .int .i64 b4, .int .i64 b5]) ((0+1)*1) (.int .i64 b1) rfl
 have ha2:=hp (#[.int .i64 a0, .int .i64 a1, .int .i64 a2, .int .i64 a3, .int .i64 a4, .int .i64 a5]) ((0+1+1)*1) (.int .i64 a2) rfl
 have hb2:=hp (#[.int .i64 b0, .int .i64 b1, .int .i64 b2, .int .i64 b3, .int .i64 b4, .int .i64 b5]) ((0+1+1)*1) (.int .i64 b2) rfl
 have ha3:=hp (#[.int .i64 a0, .int .i64 a1, .int .i64 a2, .int .i64 a3, .int .i64 a4, .int .i64 a5]) ((0+1+1+1)*1) (.int .i64 a3) rfl
 have hb3:=hp (#[.int .i64 b0, .int .i64 b1, .int .i64 b2, .int .i64 b3, .int .i64 b4, .int .i64 b5]) ((0+1+1+1)*1) (.int .i64 b3) rfl
 have ha4:=hp (#[.int .i64 a0, .int .i64 a1, .int .i64 a2, .int .i64 a3, .int .i64 a4, .int .i64 a5]) ((0+1+1+1+1)*1) (.int .i64 a4) rfl
 have hb4:=hp (#[.int .i64 b0, .int .i64 b1, .int .i64 b2, .int .i64 b3, .int .i64 b4, .int .i64 b5]) ((0+1+1+1+1)*1) (.int .i64 b4) rfl
 have ha5:=hp (#[.int .i64 a0, .int .i64 a1, .int .i64 a2, .int .i64 a3, .int .i64 a4, .int .i64 a5]) ((0+1+1+1+1+1)*1) (.int .i64 a5) rfl
 have hb5:=hp (#[.int .i64 b0, .int .i64 b1, .int .i64 b2, .int .i64 b3, .int .i64 b4, .int .i64 b5]) ((0+1+1+1+1+1)*1) (.int .i64 b5) rfl
 clear hp
 generalize hd:d+1=d1 at*
 generalize hA:(#[.int .i64 a0, .int .i64 a1, .int .i64 a2, .int .i64 a3, .int .i64 a4, .int .i64 a5]:Array Value)=A at*
 generalize hB:(#[.int .i64 b0, .int .i64 b1, .int .i64 b2, .int .i64 b3, .int .i64 b4, .int .i64 b5]:Array Value)=B at*
 unfold Op.equalIn
 simp only [Sem.run_bind,run_underlying Tryz.underlying26,Result.andThen_ok,sizeB.run C0]
 simp only [Std.Legacy.Range.forIn_eq_forIn_range',Std.Legacy.Range.size,List.range',List.forIn_cons,List.forIn_nil]
 by_cases e0:a0=b0
 rotate_left
 ·simp_all
 by_cases e1:a1=b1
 rotate_left
 ·simp_all
 by_cases e2:a2=b2
 rotate_left
 ·simp_all
 by_cases e3:a3=b3
 rotate_left
 ·simp_all
 by_cases e4:a4=b4
 rotate_left
 ·simp_all
 by_cases e5:a5=b5
 rotate_left
 ·simp_all
 ·simp_all
theorem Al6 {t':TypeId} {o:Oper} {e:Operand→S} {h:Xh} {x y:Operand} {a0:Int} {a1:Int} {a2:Int} {a3:Int} {a4:Int} {a5:Int} {b0:Int} {b1:Int} {b2:Int} {b3:Int} {b4:Int} {b5:Int} (ho:o.op= .binOp .eql 26 x y t') (hx:e x= .d (.agg [.v (.int .i64 a0), .v (.int .i64 a1), .v (.int .i64 a2), .v (.int .i64 a3), .v (.int .i64 a4), .v (.int .i64 a5)])) (hy:e y= .d (.agg [.v (.int .i64 b0), .v (.int .i64 b1), .v (.int .i64 b2), .v (.int .i64 b3), .v (.int .i64 b4), .v (.int .i64 b5)])):Bm Tryz.prog o e h (.d (.v (.bool (decide (a0=b0∧a1=b1∧a2=b2∧a3=b3∧a4=b4∧a5=b5))))):=by
 refine Gi ho hx hy rfl rfl (by kernel_rfl) fun w=> ?_
 refine (run_eql_struct w 26 #[.int .i64 a0, .int .i64 a1, .int .i64 a2, .int .i64 a3, .int .i64 a4, .int .i64 a5] #[.int .i64 b0, .int .i64 b1, .int .i64 b2, .int .i64 b3, .int .i64 b4, .int .i64 b5]).trans ?_
 have hq:=Af8 9998 w a0 a1 a2 a3 a4 a5 b0 b1 b2 b3 b4 b5
 simp only [Nat.reduceAdd] at hq
 rw [hq]
 simp only [Result.andThen_ok]
theorem Al2 {t':TypeId} {o:Oper} {e:Operand→S} {h:Xh} {x y:Operand} {a0:Int} {a1:Int} {a2:Int} {a3:Int} {a4:Int} {a5:Int} {b0:Int} {b1:Int} {b2:Int} {b3:Int} {b4:Int} {b5:Int} (ho:o.op= .binOp .neq 26 x y t') (hx:e x= .d (.agg [.v (.int .i64 a0), .v (.int .i64 a1), .v (.int .i64 a2), .v (.int .i64 a3), .v (.int .i64 a4), .v (.int .i64 a5)])) (hy:e y= .d (.agg [.v (.int .i64 b0), .v (.int .i64 b1), .v (.int .i64 b2), .v (.int .i64 b3), .v (.int .i64 b4), .v (.int .i64 b5)])):Bm Tryz.prog o e h (.d (.v (.bool (decide (¬(a0=b0∧a1=b1∧a2=b2∧a3=b3∧a4=b4∧a5=b5)))))):=by
 refine Gi ho hx hy rfl rfl (by kernel_rfl) fun w=> ?_
 refine (run_neq_struct w 26 #[.int .i64 a0, .int .i64 a1, .int .i64 a2, .int .i64 a3, .int .i64 a4, .int .i64 a5] #[.int .i64 b0, .int .i64 b1, .int .i64 b2, .int .i64 b3, .int .i64 b4, .int .i64 b5]).trans ?_
 have hq:=Af8 9998 w a0 a1 a2 a3 a4 a5 b0 b1 b2 b3 b4 b5
 simp only [Nat.reduceAdd] at hq
 rw [hq]
 simp only [Result.andThen_ok,decide_not]
end Go.Proofs.YtcihalbakenleaaGreat
namespace Go.Proofs.YtcihalbakenleaaGreat
open Go.RowKit
theorem Arf {m:Me} {k:Nat} {g:Int} (h:m.gs[k]? =some g): [dI m.g0,dI m.g1,dI m.g2,dI m.g3,dI m.g4,dI m.g5][k]? =some (dI g):=by
 have:(m.gs.map dI)[k]? =some (dI g):=by rw [List.getElem?_map,h];rfl
 exact this
def Me.flat (m:Me):Prop:=m.g0=0∧m.g1=0∧m.g2=0∧m.g3=0∧m.g4=0∧m.g5=0
instance (m:Me):Decidable m.flat:=by unfold Me.flat;exact inferInstance
def gGo (k:Nat) (s n:Int):List Int→Option (Int × Int)
 | []=>some (s,n)
 |g::r=>if g<0∨64<g∨(0<g∧(k:Int)≠n) then none else if 0<g then gGo (k+1) (s+g) (n+1) r else gGo (k+1) s n r
def gOk (c:Int) (o:Option (Int × Int)):Prop:=match o with|some p=>p.1=c∧2≤p.2|none=>False
instance (c:Int) (o:Option (Int × Int)):Decidable (gOk c o):=by unfold gOk;cases o<;>exact inferInstance
def Me.grouped (m:Me):Prop:=m.flat∨gOk m.count (gGo 0 0 0 m.gs)
instance (m:Me):Decidable m.grouped:=by unfold Me.grouped;exact inferInstance
theorem K9 {m:Me} {k:Nat} {g s n:Int} (h:m.gs[k]? =some g) (hb:g<0∨64<g∨(0<g∧(k:Int)≠n)):gGo k s n (m.gs.drop k)=none:=by rw [Ct h,gGo,if_pos hb]
theorem Af0 {m:Me} {k:Nat} {g s n:Int} (h:m.gs[k]? =some g) (hb:¬(g<0∨64<g∨(0<g∧(k:Int)≠n))) (hg:0<g):gGo k s n (m.gs.drop k)=gGo (k+1) (s+g) (n+1) (m.gs.drop (k+1)):=by rw [Ct h,gGo,if_neg hb,if_pos hg]
theorem Akf {m:Me} {k:Nat} {g s n:Int} (h:m.gs[k]? =some g) (hb:¬(g<0∨64<g∨(0<g∧(k:Int)≠n))) (hg:¬0<g):gGo k s n (m.gs.drop k)=gGo (k+1) s n (m.gs.drop (k+1)):=by rw [Ct h,gGo,if_neg hb,if_neg hg]
theorem Apn {m:Me} (h:m.grouped):true=decide m.grouped:=by rw [decide_eq_true h]
theorem Zj {m:Me} (h1:¬m.flat) (h:gGo 0 0 0 m.gs=none):false=decide m.grouped:=by rw [decide_eq_false];exact fun k=>k.elim h1 (by rw [h];exact fun k=>k)
theorem Zk {m:Me} (h1:¬m.flat) {s n:Int} (h:gGo 0 0 0 m.gs=some (s,n)):m.grouped↔s=m.count∧2≤n:=by
 unfold Me.grouped
 rw [h]
 exact ⟨fun k=>k.elim (fun k=>absurd k h1) fun k=>k,fun k=> .inr k⟩
theorem Ahv (m:Me):XC Tryz.prog 138 [.agg (Me.c m)] (fun r=>r=dB (decide m.grouped)):=by
 refine Ao Abg Tryz.func138 R R lb<|zr<|XL.step R (Ay 1 (l:= [.d (dI m.count), .d (dI m.unit), .d (dI m.g0), .d (dI m.g1), .d (dI m.g2), .d (dI m.g3), .d (dI m.g4), .d (dI m.g5)]) R R (by kernel_rfl))<|za R R<|zn<|zs<|zr<|zp (Aa R R F3)<|?_
 refine zp (Ad (s':= .d (.agg [dI m.g0,dI m.g1,dI m.g2,dI m.g3,dI m.g4,dI m.g5])) (Ae (Ac R R Ack R lb)) (by kernel_rfl))<|zp (Ad (s':= .d (.agg [dI 0,dI 0,dI 0,dI 0,dI 0,dI 0])) (Ae (Ph R Tryz.underlying26 C0 Ae3 R)) (by kernel_rfl))<|zp (Al6 R R R)<|zn<|?_
 refine zd R (fun c10=> ?_) (fun c10=> ?_)
 exact zr<|za R R<|zn<|zt<|z1 R R (rB (Apn (.inl c10)))
 refine zi<|zr<|za R R<|za R R<|zn<|zs<|zr<|zp (Aa R R F3)<|zp (Ad (s':= .d (.agg [dI m.g0,dI m.g1,dI m.g2,dI m.g3,dI m.g4,dI m.g5])) (Ae (Ac R R Ack R lb)) (by kernel_rfl))<|zm R R<|zn<|Ag<|?_
 refine Ax (α:=Nat × Int × Int) (fun p=>p.1≤6∧gGo p.1 p.2.1 p.2.2 (m.gs.drop p.1)=gGo 0 0 0 m.gs∧0≤p.2.1∧p.2.1≤64*p.1∧0≤p.2.2∧p.2.2≤p.1) (fun p=>mkF [(1, .ptr 1 0 0),(3, .d (dI p.2.1)),(4, .d (dI p.2.2)),(12, .d (.agg [dI m.g0,dI m.g1,dI m.g2,dI m.g3,dI m.g4,dI m.g5])),(13, .d (dI p.1))]) (fun p=>mkH [(1, .box ((Me.c m).map S.d))]) (fun p=>6 - p.1) ((0,0,0)) (⟨Nat.zero_le _,R,by simp,by simp,by simp,by simp⟩) ?_ ?_ ?_
 exact fz ⟨sr,sr,sr,sr,sr,trivial⟩
 exact gz ⟨R,trivial⟩
 intro p hk0
 obtain ⟨hk,hgo,hs0,hs1,hn0,hn1⟩:=hk0
 refine zr<|zp (At R R R)<|zn<|zs<|?_
 refine zd R (fun c14=> ?_) (fun c14=> ?_)
 obtain ⟨g,hg⟩:∃g,m.gs[p.1]? =some g:=As (by show p.1<6;omega)
 refine zi<|zs<|Ag<|zr<|zm R R<|zp (Wa (k:=p.1) R R R R Tryz.underlying26 Ah C0 (by omega) (Arf hg))<|za R R<|za R R<|zn<|Ag<|zr<|zm R R<|zp (At R R R)<|zm R R<|?_
 refine XL.dec 20 R (fun g20=> ?_) (fun g20=> ?_)
 exact zk 2 R<|zq R R R<|zm R R<|zk 7 R<|zq R R R<|za R R<|zn<|Ap (by kernel_rfl) R<|zr<|za R R<|zn<|zt<|z1 R R (rB (Zj c10 (by rw [←hgo];exact K9 hg (by omega))))
 refine zm R R<|zp (A6 R R R)<|zq R R R<|zm R R<|?_
 refine XL.dec 24 R (fun g24=> ?_) (fun g24=> ?_)
 exact zk 7 R<|zq R R R<|za R R<|zn<|Ap (by kernel_rfl) R<|zr<|za R R<|zn<|zt<|z1 R R (rB (Zj c10 (by rw [←hgo];exact K9 hg (by omega))))
 refine zm R R<|zp (A6 R R R)<|zm R R<|?_
 refine XL.dec 27 R (fun g27=> ?_) (fun g27=> ?_)
 refine zm R R<|zm R R<|zp (Bc R R R)<|zq R R R<|zq R R R<|za R R<|zn<|?_
 refine zd R (fun c17=> ?_) (fun c17=> ?_)
 exact zr<|za R R<|zn<|zt<|z1 R R (rB (Zj c10 (by rw [←hgo];exact K9 hg (by omega))))
 refine zr<|zm R R<|zp (A6 R R R)<|za R R<|zn<|?_
 refine zd R (fun c33=> ?_) (fun c33=> ?_)
 refine Af (by kernel_rfl)<|zm R R<|zm R R<|zp (Al R R R (by omega) (by omega))<|zm R R<|zp (Al R R R (by omega) (by omega))<|za R R<|za R R<|zn<|Af (by kernel_rfl)<|zp (Al R R R (by omega) (by omega))<|zm R R<|zn<|?_
 exact Am ((p.1+1,p.2.1+g,p.2.2+1)) (⟨by simp only;omega,by rw [←Af0 hg (by omega) c33];exact hgo,by simp only;omega,by simp only;omega,by simp only;omega,by simp only;omega⟩) (by simp only;omega) (fz ⟨sr,sr,sr,sr,sr,trivial⟩) (gz ⟨rfl,trivial⟩)
 refine zi<|Af (by kernel_rfl)<|zp (Al R R R (by omega) (by omega))<|zm R R<|zn<|?_
 exfalso;omega
 refine zk 3 R<|zq R R R<|zq R R R<|za R R<|zn<|A3 (by kernel_rfl) R<|zr<|zm R R<|zp (A6 R R R)<|za R R<|zn<|?_
 refine zd R (fun c33=> ?_) (fun c33=> ?_)
 refine Af (by kernel_rfl)<|zm R R<|zm R R<|zp (Al R R R (by omega) (by omega))<|zm R R<|zp (Al R R R (by omega) (by omega))<|za R R<|za R R<|zn<|Af (by kernel_rfl)<|zp (Al R R R (by omega) (by omega))<|zm R R<|zn<|?_
 exfalso;omega
 refine zi<|Af (by kernel_rfl)<|zp (Al R R R (by omega) (by omega))<|zm R R<|zn<|?_
 exact Am ((p.1+1,p.2.1,p.2.2)) (⟨by simp only;omega,by rw [←Akf hg (by omega) c33];exact hgo,by simp only;omega,by simp only;omega,by simp only;omega,by simp only;omega⟩) (by simp only;omega) (fz ⟨sr,sr,sr,sr,sr,trivial⟩) (gz ⟨rfl,trivial⟩)
 have hke:p.1=6:=by omega
 have hend:gGo 0 0 0 m.gs=some (p.2.1,p.2.2):=by rw [←hgo,hke];rfl
 refine An<|zr<|zm R R<|zp (Aa R R Dp)<|zp (Ab R R Ah R R)<|zp (Az R R R)<|zm R R<|?_
 refine XL.dec 46 R (fun g46=> ?_) (fun g46=> ?_)
 exact zm R R<|zp (Ec R R R)<|zq R R R<|za R R<|zn<|zt<|z1 R R (rB (by rw [decide_eq_decide,Zk c10 hend];exact ⟨fun h=>⟨g46,h⟩,fun h=>h.2⟩))
 exact zk 2 R<|zq R R R<|za R R<|zn<|zt<|z1 R R (rB (by rw [eq_comm,decide_eq_false_iff_not,Zk c10 hend];exact fun h=>g46 h.1))
def Me.pow (m:Me):Prop:=((m.unit.toNat &&& (m.unit - 1).toNat:Nat):Int)=0
instance (m:Me):Decidable m.pow:=by unfold Me.pow;exact inferInstance
def Me.err (m:Me):Int:=if m.count<1∨64<m.count then 2 else if m.unit<1∨64<m.unit∨¬m.pow then 17 else if ¬m.grouped then 19 else 0
theorem Ahi {m:Me} (h:m.count<1∨64<m.count):2=m.err:=by rw [Me.err,if_pos h]
theorem Ahh {m:Me} (h:¬(m.count<1∨64<m.count)) (h2:m.unit<1∨64<m.unit∨¬m.pow):17=m.err:=by rw [Me.err,if_neg h,if_pos h2]
theorem Aq5 {m:Me} (h:¬(m.count<1∨64<m.count)) (h2:¬(m.unit<1∨64<m.unit∨¬m.pow)) (h3:¬m.grouped):19=m.err:=by rw [Me.err,if_neg h,if_neg h2,if_pos h3]
theorem Aq4 {m:Me} (h:¬(m.count<1∨64<m.count)) (h2:¬(m.unit<1∨64<m.unit∨¬m.pow)) (h3:m.grouped):0=m.err:=by rw [Me.err,if_neg h,if_neg h2,if_neg (fun k=>k h3)]
theorem Afp {a b c:Prop} (h1:¬a) (h2:¬b) (h3:¬c):¬(a∨b∨c):=fun k=>k.elim h1 fun k=>k.elim h2 h3
theorem Oj {a b:Prop} (h1:¬a) (h2:¬b):¬(a∨b):=fun k=>k.elim h1 h2
theorem Wi (m:Me):XC Tryz.prog 93 [.agg (Me.c m)] (fun r=>r=dI m.err):=by
 refine Ao Adh Tryz.func93 R R lb<|zr<|XL.step R (Ay 1 (l:= [.d (dI m.count), .d (dI m.unit), .d (dI m.g0), .d (dI m.g1), .d (dI m.g2), .d (dI m.g3), .d (dI m.g4), .d (dI m.g5)]) R R (by kernel_rfl))<|za R R<|zn<|zs<|Ag<|zr<|zp (Aa R R Dp)<|zp (Ab R R Ah R R)<|zp (At R R R)<|zm R R<|?_
 refine XL.dec 7 R (fun g7=> ?_) (fun g7=> ?_)
 exact zk 3 R<|zq R R R<|za R R<|zn<|Ap (by kernel_rfl) R<|zr<|za R R<|zn<|zt<|z1 R R (rI (Ahi (.inl g7)))
 refine zp (Aa R R Dp)<|zp (Ab R R Ah R R)<|zp (A6 R R R)<|zq R R R<|za R R<|zn<|?_
 refine zd R (fun c3=> ?_) (fun c3=> ?_)
 exact zr<|za R R<|zn<|zt<|z1 R R (rI (Ahi (.inr c3)))
 refine zr<|zp (Aa R R Hn)<|zp (Ab R R Ah R R)<|zp (At R R R)<|zm R R<|?_
 refine XL.dec 16 R (fun g16=> ?_) (fun g16=> ?_)
 exact zk 3 R<|zq R R R<|zm R R<|zk 7 R<|zq R R R<|za R R<|zn<|Ap (by kernel_rfl) R<|zr<|za R R<|zn<|zt<|z1 R R (rI (Ahh (Oj g7 c3) (.inl g16)))
 refine zp (Aa R R Hn)<|zp (Ab R R Ah R R)<|zp (A6 R R R)<|zq R R R<|zm R R<|?_
 refine XL.dec 21 R (fun g21=> ?_) (fun g21=> ?_)
 exact zk 7 R<|zq R R R<|za R R<|zn<|Ap (by kernel_rfl) R<|zr<|za R R<|zn<|zt<|z1 R R (rI (Ahh (Oj g7 c3) (.inr (.inl g21))))
 refine zp (Aa R R Hn)<|zp (Ab R R Ah R R)<|zp (Aa R R Hn)<|zp (Ab R R Ah R R)<|zp (C7 R R R (by omega) (by omega))<|zp (Ano R R R (by omega) (by omega) (by omega) (by omega))<|zp (Bc R R R)<|zq R R R<|za R R<|zn<|?_
 refine zd R (fun c12=> ?_) (fun c12=> ?_)
 exact zr<|za R R<|zn<|zt<|z1 R R (rI (Ahh (Oj g7 c3) (.inr (.inr c12))))
 refine zr<|zp (Ad (s':= .d (.agg (Me.c m))) (Ae (Ac R R Be R lb)) (by kernel_rfl))<|XL.call1 R R (Ahv _) R<|zp (Bp R R)<|za R R<|zn<|?_
 refine zd R (fun c30=> ?_) (fun c30=> ?_)
 exact zr<|za R R<|zn<|zt<|z1 R R (rI (Aq5 (Oj g7 c3) (Afp g16 g21 c12) c30))
 exact zi<|zr<|za R R<|zn<|zt<|z1 R R (rI (Aq4 (Oj g7 c3) (Afp g16 g21 c12) (Decidable.not_not.1 c30)))
structure Mok (m:Me):Prop where
 count:1≤m.count∧m.count≤64
 unit:1≤m.unit∧m.unit≤64
 pow:m.pow
 grp:m.grouped
theorem Aj1 {m:Me} (h:¬m.err≠0):Mok m:=by
 have h0:m.err=0:=by omega
 unfold Me.err at h0
 split at h0
 ·omega
 ·split at h0
  ·omega
  ·rename_i h2
   split at h0
   ·omega
   ·rename_i h3
    exact ⟨by omega,⟨by omega,by omega⟩,Decidable.not_not.1 fun k=>h2 (.inr (.inr k)),Decidable.not_not.1 h3⟩
def Me.u (m:Me):Int:=1935360 / m.unit
def Me.len (m:Me):Int:=m.count*m.u
theorem Mok.u {m:Me} (h:Mok m):1≤m.u∧m.u≤1935360:=by
 have:=h.unit
 unfold Me.u
 exact ⟨(Int.le_ediv_iff_mul_le (by omega)).2 (by omega),Int.ediv_le_self _ (by omega)⟩
theorem Mok.len {m:Me} (h:Mok m):1≤m.len∧m.len≤123863040:=by
 have h1:=h.u
 have h2:=h.count
 unfold Me.len
 have h3:1*1≤m.count*m.u:=Int.mul_le_mul h2.1 h1.1 (by omega) (by omega)
 have h4:m.count*m.u≤64*1935360:=Int.mul_le_mul h2.2 h1.2 (by omega) (by omega)
 omega
theorem I8 (m:Me) (h:Mok m):XC Tryz.prog 177 [.agg (Me.c m)] (fun r=>r=dI m.u):=by
 have hu:=h.unit
 exact Ao Aaf Tryz.func177 R R lb<|zr<|XL.step R (Ay 1 (l:= [.d (dI m.count), .d (dI m.unit), .d (dI m.g0), .d (dI m.g1), .d (dI m.g2), .d (dI m.g3), .d (dI m.g4), .d (dI m.g5)]) R R (by kernel_rfl))<|za R R<|znr<|zp (Aa R R Hn)<|zp (Ab R R Ah R R)<|zp (F9 R R R (by omega) (by omega) (by omega))<|za R R<|zn<|zt<|z1 R R (rI R)
theorem Ua (m:Me) (h:Mok m):XC Tryz.prog 171 [.agg (Me.c m)] (fun r=>r=dI m.len):=by
 have hu:=h.u
 have hc:=h.count
 have hl:=h.len
 have hl2:m.count*m.u=m.len:=rfl
 refine Ao Aal Tryz.func171 R R lb<|zr<|XL.step R (Ay 1 (l:= [.d (dI m.count), .d (dI m.unit), .d (dI m.g0), .d (dI m.g1), .d (dI m.g2), .d (dI m.g3), .d (dI m.g4), .d (dI m.g5)]) R R (by kernel_rfl))<|za R R<|zn<|zs<|A8 [] (by kernel_rfl) (by kernel_rfl) (by kernel_rfl) (by decide)<|yp (Aa R R Dp)<|yp (Ab R R Ah R R)<|?_
 refine yp (Ad (s':= .d (.agg (Me.c m))) (Ae (Ac R R Be R lb)) (by kernel_rfl))<|ChK.cons R (CStep.call R (I8 _ (by assumption)) R)<|yp (G5 R R R (by omega) (by omega))<|ya R R<|?_
 refine ChK.nil ⟨by kernel_rfl, ?_⟩
 exact zt<|z1 R R (rI R)
end Go.Proofs.YtcihalbakenleaaGreat
namespace Go.Proofs.YtcihalbakenleaaGreat
open Go.RowKit
def Gp:List Int→Int
 | []=>0
 |x::r=>r.foldl min x
def Gq:List Int→Int
 | []=>0
 |x::r=>r.foldl max x
theorem Wh {l:List Int} (h:l≠ []) (x:Int):Gp (l++ [x])=min (Gp l) x:=by
 cases l with
 |nil=>exact absurd rfl h
 |cons a r=>simp only [Gp,List.cons_append,List.foldl_append,List.foldl_cons,List.foldl_nil]
theorem Wj {l:List Int} (h:l≠ []) (x:Int):Gq (l++ [x])=max (Gq l) x:=by
 cases l with
 |nil=>exact absurd rfl h
 |cons a r=>simp only [Gq,List.cons_append,List.foldl_append,List.foldl_cons,List.foldl_nil]
theorem Ae7 {l:List Int} {k:Nat} (h:1≤k) (h2:0<l.length):l.take k≠ []:=fun e=>by
 have:=congrArg List.length e
 rw [List.length_take,List.length_nil] at this
 omega
theorem Aj2 {l:List Int} {k:Nat} {x:Int} (h:l[k]? =some x) (hk:1≤k):Gp (l.take (k+1))=min (Gp (l.take k)) x:=by
 rw [Bb h,Wh (Ae7 hk (by have:=(List.getElem?_eq_some_iff.1 h).1;omega))]
theorem Aj3 {l:List Int} {k:Nat} {x:Int} (h:l[k]? =some x) (hk:1≤k):Gq (l.take (k+1))=max (Gq (l.take k)) x:=by
 rw [Bb h,Wj (Ae7 hk (by have:=(List.getElem?_eq_some_iff.1 h).1;omega))]
theorem Y8 {l:List Int} {x:Int} (h:l[0]? =some x):Gp (l.take 1)=x∧Gq (l.take 1)=x:=by
 cases l with
 |nil=>cases h
 |cons a r=>cases h;exact ⟨rfl,rfl⟩
theorem Aoq (l:List Int) (h:0<l.length):XC Tryz.prog 173 [.sl 1 (Bo l)] (fun r=>r=dI (Gp l)):=by
 refine Ao Aaj Tryz.func173 R R lb<|zr<|za R R<|zn<|zs<|zr<|zm R R<|XL.len R R R Tryz.underlying64 fun hl6=>zp (At R R R)<|zn<|?_
 refine zd R (fun c7=> ?_) (fun c7=> ?_)
 exfalso;omega
 refine zi<|zs<|?_
 obtain ⟨x,hx⟩:∃x,l[0]? =some x:=As h
 refine Af (by kernel_rfl)<|zm R R<|zp (Ak (k:=0) R R R C5 (hx))<|zp (Aw R R Ah)<|za R R<|zn<|zs<|zr<|za R R<|zn<|Ag<|?_
 refine Ax (α:=Nat) (fun k=>1≤k∧k≤l.length) (fun k=>mkF [(0, .d (.sl 1 (Bo l))),(2, .d (dI 0)),(3, .d (dI (Gp (l.take k)))),(4, .d (dI k))]) (fun k=>mkH []) (fun k=>l.length - k) (1) (⟨Nat.le_refl _,h⟩) ?_ ?_ ?_
 exact fz ⟨sr,sr, .same (sI (Y8 hx).1.symm),sr,trivial⟩
 exact HSub.nil
 intro k hk0
 refine zs<|zr<|zm R R<|zm R R<|XL.len R R R Tryz.underlying64 fun hl14=>zp (At R R R)<|zn<|?_
 refine zd R (fun c15=> ?_) (fun c15=> ?_)
 obtain ⟨y,hy⟩:∃y,l[k]? =some y:=As (by omega)
 refine zi<|zs<|Ag<|Af (by kernel_rfl)<|zm R R<|zm R R<|zm R R<|zp (Ak R R R C5 (hy))<|zp (Aw R R Ah)<|zp (Asf R R R)<|za R R<|zn<|Af (by kernel_rfl)<|zm R R<|?_
 refine zp (Al R R R (by omega) (by omega))<|za R R<|zn<|?_
 exact Am (k+1) (by omega) (by omega) (fz ⟨sr,sr, .same (sI (by rw [Aj2 hy (by omega)])),sr,trivial⟩) (HSub.nil)
 have ht:l.take k=l:=List.take_of_length_le (by omega)
 exact An<|zr<|zm R R<|za R R<|zn<|zt<|z1 R R (rI (by rw [ht]))
theorem Aor (l:List Int) (h:0<l.length):XC Tryz.prog 174 [.sl 1 (Bo l)] (fun r=>r=dI (Gq l)):=by
 refine Ao Aai Tryz.func174 R R lb<|zr<|za R R<|zn<|zs<|zr<|zm R R<|XL.len R R R Tryz.underlying64 fun hl6=>zp (At R R R)<|zn<|?_
 refine zd R (fun c7=> ?_) (fun c7=> ?_)
 exfalso;omega
 refine zi<|zs<|?_
 obtain ⟨x,hx⟩:∃x,l[0]? =some x:=As h
 refine Af (by kernel_rfl)<|zm R R<|zp (Ak (k:=0) R R R C5 (hx))<|zp (Aw R R Ah)<|za R R<|zn<|zs<|zr<|za R R<|zn<|Ag<|?_
 refine Ax (α:=Nat) (fun k=>1≤k∧k≤l.length) (fun k=>mkF [(0, .d (.sl 1 (Bo l))),(2, .d (dI 0)),(3, .d (dI (Gq (l.take k)))),(4, .d (dI k))]) (fun k=>mkH []) (fun k=>l.length - k) (1) (⟨Nat.le_refl _,h⟩) ?_ ?_ ?_
 exact fz ⟨sr,sr, .same (sI (Y8 hx).2.symm),sr,trivial⟩
 exact HSub.nil
 intro k hk0
 refine zs<|zr<|zm R R<|zm R R<|XL.len R R R Tryz.underlying64 fun hl14=>zp (At R R R)<|zn<|?_
 refine zd R (fun c15=> ?_) (fun c15=> ?_)
 obtain ⟨y,hy⟩:∃y,l[k]? =some y:=As (by omega)
 refine zi<|zs<|Ag<|Af (by kernel_rfl)<|zm R R<|zm R R<|zm R R<|zp (Ak R R R C5 (hy))<|zp (Aw R R Ah)<|zp (Asg R R R)<|za R R<|zn<|Af (by kernel_rfl)<|zm R R<|?_
 refine zp (Al R R R (by omega) (by omega))<|za R R<|zn<|?_
 exact Am (k+1) (by omega) (by omega) (fz ⟨sr,sr, .same (sI (by rw [Aj3 hy (by omega)])),sr,trivial⟩) (HSub.nil)
 have ht:l.take k=l:=List.take_of_length_le (by omega)
 exact An<|zr<|zm R R<|za R R<|zn<|zt<|z1 R R (rI (by rw [ht]))
def Jn (v:Int) (k:Nat):List Int→Int
 | []=> -1
 |x::r=>if v=x then k else Jn v (k+1) r
theorem Ake {v x:Int} {l:List Int} {k:Nat} (h:l[k]? =some x) (hv:v=x):Jn v k (l.drop k)=k:=by rw [Ct h,Jn,if_pos hv]
theorem Ahr {v x:Int} {l:List Int} {k:Nat} (h:l[k]? =some x) (hv:¬v=x):Jn v k (l.drop k)=Jn v (k+1) (l.drop (k+1)):=by rw [Ct h,Jn,if_neg hv]
theorem Akd (v:Int) (l:List Int):∀k,0≤Jn v k l↔v∈l:=by
 induction l with
 |nil=>intro k;simp [Jn]
 |cons x r ih=>
  intro k
  rw [Jn]
  split
  ·rename_i h;simp [h]
  ·rename_i h;rw [ih,List.mem_cons];exact ⟨.inr,fun k=>k.elim (fun e=>absurd e h) fun e=>e⟩
theorem Ai3 (l:List Int) (v:Int):XC Tryz.prog 187 [.sl 1 (Bo l), .v (.int .i64 v)] (fun r=>r=dI (Jn v 0 l)):=by
 refine Ao Z6 Tryz.func187 R R lb<|zr<|za R R<|zn<|zs<|zr<|zm R R<|XL.len R R R Tryz.underlying64 fun hl7=>zm R R<|zn<|Ag<|?_
 refine Ax (α:=Nat) (fun k=>k≤l.length∧Jn v k (l.drop k)=Jn v 0 l) (fun k=>mkF [(0, .d (.sl 1 (Bo l))),(1, .d (dI v)),(7, .d (dI l.length)),(8, .d (dI k))]) (fun k=>mkH []) (fun k=>l.length - k) (0) (⟨Nat.zero_le _,by rw [List.drop_zero]⟩) ?_ ?_ ?_
 exact fz ⟨sr,sr,sr,sr,trivial⟩
 exact HSub.nil
 intro k hk0
 obtain ⟨hk,hgo⟩:=hk0
 refine zr<|zp (At R R R)<|zn<|zs<|?_
 refine zd R (fun c9=> ?_) (fun c9=> ?_)
 have hk0a:k<l.length:=by omega
 obtain ⟨x0,hx0⟩:=As hk0a
 refine zi<|zs<|Ag<|zr<|zm R R<|za R R<|znr<|zm R R<|zm R R<|zm R R<|zp (Ak R R R C5 hx0)<|zp (Aw R R Ah)<|zp (Az R R R)<|zn<|?_
 refine zd R (fun c16=> ?_) (fun c16=> ?_)
 exact zr<|zm R R<|za R R<|zn<|zt<|z1 R R (rI (by rw [←hgo,Ake hx0 c16]))
 refine zi<|Af (by kernel_rfl)<|zp (Al R R R (by omega) (by omega))<|zm R R<|zn<|?_
 exact Am (k+1) (⟨by omega,by rw [←Ahr hx0 c16];exact hgo⟩) (by omega) (fz ⟨sr,sr,sr,sr,trivial⟩) (HSub.nil)
 have hk0b:k=l.length:=by omega
 have hz:Jn v 0 l= -1:=by rw [←hgo,hk0b,List.drop_length];rfl
 exact An<|zr<|za R R<|zn<|zt<|z1 R R (rI hz.symm)
theorem Mx (l:List Int) (v:Int):XC Tryz.prog 175 [.sl 1 (Bo l), .v (.int .i64 v)] (fun r=>r=dB (decide (v∈l))):=by
 exact Ao Aah Tryz.func175 R R lb<|zr<|za R R<|znr<|zm R R<|zm R R<|XL.call1 R R (Ai3 _ _) R<|zp (Ec R R R)<|za R R<|zn<|zt<|z1 R R (rB (by rw [decide_eq_decide];exact Akd v l 0))
end Go.Proofs.YtcihalbakenleaaGreat
namespace Go.Proofs.YtcihalbakenleaaGreat
open Go.RowKit
mutual
def S.frp (i:Nat) (x:List D):S→S
  | .any=> .any
  | .d y=> .d y
  | .ptr j k off=>bif Nat.beq i j then (bif Nat.beq k 0 then .d (.pt (x.drop off)) else .any) else .ptr j k off
  | .own j=> .own j
  | .sub j a b=> .sub j a b
  | .agg l=> .agg (S.frpL i x l)
  | .fn f a c=> .fn f (S.frpL i x a) (S.frpL i x c)
  | .tup l=> .tup (S.frpL i x l)
def S.frpL (i:Nat) (x:List D):List S→List S
  | []=> []
  |s::l=>S.frp i x s::S.frpL i x l
end
theorem S.frpL_length (i:Nat) (x:List D) (l:List S):(S.frpL i x l).length=l.length:=by
  induction l with
  |nil=>rfl
  |cons a l ih=>simp [S.frpL,ih]
theorem S.frpL_get (i:Nat) (x:List D) (l:List S) (j:Nat):(S.frpL i x l)[j]? =(l[j]?).map (S.frp i x):=by
  induction l generalizing j with
  |nil=>rfl
  |cons a l ih=>
    cases j with
    |zero=>rfl
    |succ j=>simpa [S.frpL] using ih j
theorem VS.frp {H:Hp} {β:Bt} {u:Value} {s:S} (hs:VS H β u s) (i:Nat) (x:List D) (hx:∀L,β i=some L→∀off,VD H (.pointer (some ⟨L.b,off,none⟩)) (.pt (x.drop off))):VS H β u (s.frp i x):=by
  induction hs with
  |any u=>unfold S.frp;exact .any u
  |d h=>unfold S.frp;exact .d h
  | @ptr j L k off h=>
    unfold S.frp
    by_cases e:i=j
    · subst e
      rw [B1,cond_true]
      by_cases e2:k=0
      · subst e2
        rw [B1,cond_true,Nat.zero_mul,Nat.zero_add]
        exact .d (hx _ h off)
      · rw [Ca e2,cond_false];exact .any _
    · rw [Ca e];exact .ptr k off h
  |own h=>unfold S.frp;exact .own h
  |sub a b h hv hab hn=>unfold S.frp;exact .sub a b h hv hab hn
  |agg cs l e h ih=>
    unfold S.frp
    refine .agg cs _ (by rw [S.frpL_length];exact e) fun j y s hy hs=> ?_
    rw [S.frpL_get] at hs
    cases hl:l[j]? with
    |none=>rw [hl] at hs;simp at hs
    |some s'=>rw [hl] at hs;simp at hs;subst hs;exact ih j y s' hy hl
  |fn f A C a c ha hc h h' ih ih'=>
    unfold S.frp
    refine .fn f A C _ _ (by rw [S.frpL_length];exact ha) (by rw [S.frpL_length];exact hc) (fun j y s hy hs=> ?_) (fun j y s hy hs=> ?_)
    · rw [S.frpL_get] at hs
      cases hl:a[j]? with
      |none=>rw [hl] at hs;simp at hs
      |some s'=>rw [hl] at hs;simp at hs;subst hs;exact ih j y s' hy hl
    · rw [S.frpL_get] at hs
      cases hl:c[j]? with
      |none=>rw [hl] at hs;simp at hs
      |some s'=>rw [hl] at hs;simp at hs;subst hs;exact ih' j y s' hy hl
  |tup cs l e h ih=>
    unfold S.frp
    refine .tup cs _ (by rw [S.frpL_length];exact e) fun j y s hy hs=> ?_
    rw [S.frpL_get] at hs
    cases hl:l[j]? with
    |none=>rw [hl] at hs;simp at hs
    |some s'=>rw [hl] at hs;simp at hs;subst hs;exact ih j y s' hy hl
def S.frpG (i:Nat) (x:List D):List (Nat × S)→List (Nat × S)
  | []=> []
  |(t,s)::l=>(t,s.frp i x)::S.frpG i x l
theorem S.frpG_mem {i:Nat} {x:List D} {l:List (Nat × S)} {t:Nat} {s:S} (h:(t,s)∈S.frpG i x l):∃s',(t,s')∈l∧s=s'.frp i x:=by
  induction l with
  |nil=>cases h
  |cons a l ih=>
    obtain ⟨t',s'⟩:=a
    rcases List.mem_cons.1 h with e|e
    · cases e;exact ⟨s',List.mem_cons_self,rfl⟩
    · obtain ⟨s2,h1,h2⟩:=ih e;exact ⟨s2,List.mem_cons_of_mem _ h1,h2⟩
def XO.frp (i:Nat) (x:List D):XO→XO
  | .box l=> .box (S.frpL i x l)
  | .row e sz l=> .row e sz l
  | .ghost u l=> .ghost u (S.frpG i x l)
theorem XO.isG_frp (i:Nat) (x:List D) (o:XO):(o.frp i x).isG=o.isG:=by cases o<;>rfl
def Xh.frp (h:Xh) (i:Nat) (x:List D):Xh:=fun j=>bif Nat.beq i j then none else (h j).map (XO.frp i x)
def Arj (f:Fr) (i:Nat) (x:List D):Fr:=fun j=>(f j).frp i x
theorem FV.frp {n:Nat} {H:Hp} {β:Bt} {a:Act} {f:Fr} (hf:FV n H β a f) (i:Nat) (x:List D) (hx:∀L,β i=some L→∀off,VD H (.pointer (some ⟨L.b,off,none⟩)) (.pt (x.drop off))):FV n H β a (Arj f i x):=
  ⟨hf.defers,hf.size,fun t ht=>(hf.slot t ht).frp i x hx⟩
theorem XO.blk_frp (L:Loc) (i:Nat) (x:List D) (o:XO):(o.frp i x).blk L=o.blk L:=by cases o<;>rfl
theorem OKo.frp {base:Nat} {w:World} {H:Hp} {β:Bt} {L:Loc} {o:XO} (h:OKo base w H β L o) (i:Nat) (x:List D) (hx:∀L,β i=some L→∀off,VD H (.pointer (some ⟨L.b,off,none⟩)) (.pt (x.drop off))):OKo base w H β L (o.frp i x):=by
  cases o with
  |box l=>
    obtain ⟨h1,h0,us,t,h2,h3,h4⟩:=h
    refine ⟨h1,by rw [S.frpL_length];exact h0,us,t,h2,by rw [S.frpL_length];exact h3,fun j u s hu hs=> ?_⟩
    rw [S.frpL_get] at hs
    cases hl:l[j]? with
    |none=>rw [hl] at hs;simp at hs
    |some s'=>rw [hl] at hs;simp at hs;subst hs;exact (h4 j u s' hu hl).frp i x hx
  |row e sz l=>exact h
  |ghost u l=>
    intro t s hm
    obtain ⟨s',h1,rfl⟩:=S.frpG_mem hm
    exact (h t s' h1).frp i x hx
theorem Sim.shareP {E:Env} {H:Hp} {β:Bt} {h:Xh} {w:World} (s:Sim E H β h w) {i:Nat} {o:XO} {L:Loc} (ho:h i=some o) (hL:β i=some L) {g:Nat} (hg:o.blk L=some g)
    (us:Nat→Option Value) (hus:∀k u,us k=some u→w.cell? ⟨g,k,none⟩=some u∧u.oneCell'=true) (x:List D)
    (hx:∀off,VD (H.plus g us) (.pointer (some ⟨L.b,off,none⟩)) (.pt (x.drop off))):Sim E (H.plus g us) β (h.frp i x) w:=by
  have hx':∀L',β i=some L'→∀off,VD (H.plus g us) (.pointer (some ⟨L'.b,off,none⟩)) (.pt (x.drop off)):=fun L' e=>by rw [hL] at e;cases e;exact hx
  have aux:∀j o',h.frp i x j=some o'→i≠j∧∃o1,h j=some o1∧o'=o1.frp i x:=by
    intro j o' e
    unfold Xh.frp at e
    by_cases hij:i=j
    · subst hij;rw [B1] at e;cases e
    · rw [Ca hij] at e
      cases hj:h j with
      |none=>rw [hj] at e;cases e
      |some o1=>rw [hj] at e;cases e;exact ⟨hij,o1,rfl,rfl⟩
  have hgl:=(s.obj i o L ho hL).lt hg
  refine ⟨s.below,s.ext.trans (Hp.plus_le _ _ _),fun b k u e=> ?_,fun b k u e=> ?_,fun j o' L' ho' hL'=> ?_,fun j o' L' ho' hL' b hb off=> ?_,fun j j' o1 o2 L1 L2 b hjj h1 h1' h2 h2' hb=> ?_,fun j o' ho' hg'=> ?_⟩
  rotate_left 5
  · obtain ⟨_,o1,h1,rfl⟩:=aux j o' ho'
    rw [XO.isG_frp] at hg'
    exact s.dom j o1 h1 hg'
  · rcases Hp.plus_new e with k1|⟨rfl,_⟩
    · exact s.new b k u k1
    · exact .inr hgl.1
  · rcases Hp.plus_new e with k1|⟨rfl,k2⟩
    · exact s.imm b k u k1
    · exact hus k u k2
  · obtain ⟨_,o1,h1,rfl⟩:=aux j o' ho'
    exact ((s.obj j o1 L' h1 hL').keep (Hp.plus_le _ _ _) (fun _ _ h=>h) fun _ _=>rfl).frp i x hx'
  · obtain ⟨hij,o1,h1,rfl⟩:=aux j o' ho'
    rw [XO.blk_frp] at hb
    cases e:H.plus g us b off with
    |none=>rfl
    |some u=>
      rcases Hp.plus_new e with k1|⟨rfl,_⟩
      · rw [s.sep j o1 L' h1 hL' b hb off] at k1;cases k1
      · exact absurd hb (s.inj i j o o1 L L' b hij ho h1 hL hL' hg)
  · obtain ⟨_,o3,h3,rfl⟩:=aux j o1 h1
    obtain ⟨_,o4,h4,rfl⟩:=aux j' o2 h1'
    rw [XO.blk_frp] at hb ⊢
    exact s.inj j j' o3 o4 L1 L2 b hjj h3 h4 h2 h2' hb
theorem Sim.freezeP {E:Env} {H:Hp} {β:Bt} {h:Xh} {w:World} (s:Sim E H β h w) {i:Nat} {l:List S} {ds:List D} (ho:h i=some (.box l)) (hd:Jq l=some ds) (h1:l.all (H1 h)=true):
    ∃H',H.le H'∧(∀L,β i=some L→∀off,VD H' (.pointer (some ⟨L.b,off,none⟩)) (.pt (ds.drop off)))∧Sim E H' β (h.frp i ds) w:=by
  have hl:=Jp hd
  cases hL:β i with
  |none=>
    refine ⟨H,Hp.le.refl _,(fun L e=>by cases e), ?_⟩
    have hx:∀L,β i=some L→∀off,VD H (.pointer (some ⟨L.b,off,none⟩)) (.pt (ds.drop off)):=fun L e=>by rw [hL] at e;cases e
    have aux:∀j o',h.frp i ds j=some o'→∃o1,h j=some o1∧o'=o1.frp i ds:=by
      intro j o' e
      unfold Xh.frp at e
      by_cases hij:i=j
      · subst hij;rw [B1] at e;cases e
      · rw [Ca hij] at e
        cases hj:h j with
        |none=>rw [hj] at e;cases e
        |some o1=>rw [hj] at e;cases e;exact ⟨o1,rfl,rfl⟩
    refine ⟨s.below,s.ext,s.new,s.imm,fun j o' L' ho' hL'=> ?_,fun j o' L' ho' hL' b hb off=> ?_,fun j j' o1 o2 L1 L2 b hjj h1 h1' h2 h2' hb=> ?_,fun j o' ho' hg'=> ?_⟩
    · obtain ⟨o1,h1,rfl⟩:=aux j o' ho'
      exact (s.obj j o1 L' h1 hL').frp i ds hx
    · obtain ⟨o1,h1,rfl⟩:=aux j o' ho'
      rw [XO.blk_frp] at hb
      exact s.sep j o1 L' h1 hL' b hb off
    · obtain ⟨o3,h3,rfl⟩:=aux j o1 h1
      obtain ⟨o4,h4,rfl⟩:=aux j' o2 h1'
      rw [XO.blk_frp] at hb ⊢
      exact s.inj j j' o3 o4 L1 L2 b hjj h3 h4 h2 h2' hb
    · obtain ⟨o1,h1,rfl⟩:=aux j o' ho'
      rw [XO.isG_frp] at hg'
      exact s.dom j o1 h1 hg'
  |some L=>
    obtain ⟨hb,hsz,us,t,hheap,hus,hvs⟩:=s.obj i _ L ho hL
    have hblk:(XO.box l).blk L=some L.b:=rfl
    have hnone:=s.sep i _ L ho hL L.b hblk
    have hget:∀(j:Nat) (d:D),ds[j]? =some d→∃u,us[j]? =some u∧VD H u d:=by
      intro j d hj
      have hlj:l[j]? =some (.d d):=by rw [hl,List.getElem?_map,hj];rfl
      have hlt:j<us.size:=by rw [hus];exact (List.getElem?_eq_some_iff.1 hlj).1
      exact ⟨us[j],Array.getElem?_eq_getElem hlt,E0 (hvs j _ _ (Array.getElem?_eq_getElem hlt) hlj)⟩
    have hx:∀off,VD (H.plus L.b (us[·]?)) (.pointer (some ⟨L.b,off,none⟩)) (.pt (ds.drop off)):=by
      intro off
      refine .pt L.b off _ (fun j=>(us[off+j]?).getD undef) (fun j d hj=> ?_) (fun j d hj=> ?_)
      · rw [List.getElem?_drop] at hj
        obtain ⟨u,hu,_⟩:=hget _ _ hj
        rw [Hp.plus_at hnone,hu];rfl
      · rw [List.getElem?_drop] at hj
        obtain ⟨u,hu,hv⟩:=hget _ _ hj
        rw [hu]
        exact hv.mono (Hp.plus_le _ _ _)
    refine ⟨H.plus L.b (us[·]?),Hp.plus_le _ _ _,(fun L' e=>by cases e;exact hx),s.shareP ho hL hblk _ (fun k u hu=> ?_) _ hx⟩
    have hlt:k<l.length:=by rw [←hus];exact (Array.getElem?_eq_some_iff.1 hu).1
    refine ⟨by unfold World.cell?;simp only [hheap];simpa using hu,X1 s (hvs k u l[k] hu (List.getElem?_eq_getElem hlt)) (List.all_eq_true.1 h1 _ (List.getElem_mem hlt))⟩
section
variable {P:Program} {n:Nat} {ops:Array Oper} {rest:List Oper} {K:Et} {f:Fr} {h:Xh} {c:Code} {i:Nat} {l:List S} {ds:List D}
theorem XL.freezeP (i:Nat) {l:List S} {ds:List D} (ho:h i=some (.box l)) (hd:Jq l=some ds) (h1:l.all (H1 h)=true) (hc:XL P n ops rest K (Arj f i ds) (h.frp i ds)):XL P n ops rest K f h:=fun hin E H β a w hs hf=>by
  obtain ⟨H',h1,h2,h3⟩:=hs.freezeP ho hd h1
  exact hc hin E H' β a w h3 ((hf.mono h1 fun _ _ h=>h).frp i _ h2)
end
end Go.Proofs.YtcihalbakenleaaGreat
