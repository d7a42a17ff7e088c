/- Part 6 of what the statements need: lemmas and walks. -/
import Derived.Test.YtaafemnkamfgnaaGreatFt5
set_option linter.unusedVariables false
set_option linter.unusedSimpArgs false
set_option linter.unusedSectionVars false
set_option maxRecDepth 20000
set_option maxHeartbeats 8000000
namespace Go.Proofs.YtaafemnkamfgnaaGreat
open Go.RowKit
theorem Xe (t:Tp) (l:List Tp) (n:Int):hits (t::l) n=hits l n+(if t.has n then 1 else 0):=by
 unfold hits
 rw [List.filter_cons]
 by_cases h:t.has n<;>simp [h]
theorem Amy (l:List Tp) (n:Int):hits l n≤l.length:=List.length_filter_le _ _
theorem Amx (t:Tp) (s:List Tp) (n:Int) (hn:t.first≤n):hits (Cr t s) n=hits s n:=by
 induction s with
 |nil=>rfl
 |cons o r ih=>
  unfold Cr
  split
  ·rename_i h
   rw [ih,Xe,if_neg (fun k=>by unfold Tp.has at k;unfold Tp.e at h;omega)]
   rfl
  ·rfl
theorem Agz {q t:Tp} (h:¬0<Km q t):q.first≤t.first:=by
 unfold Km at h
 split at h
 ·split at h<;>omega
 ·omega
theorem Agg (n:Int) (l:List Tp):∀(p:Option Tp) (s L:List Tp),Es n p s l=0→s.length≤3→(∀e,hits L e≤3)→(∀e,(∀q,p=some q→q.first≤e)→hits L e=hits s e)→∀e,hits (L++l) e≤3:=by
 induction l with
 |nil=>intro p s L _ _ h1 _ e;rw [List.append_nil];exact h1 e
 |cons t l ih=>
  intro p s L hz hs h1 h2 e
  rw [Es] at hz
  split at hz
  ·omega
  ·split at hz
   ·omega
   ·rename_i hin hna
    split at hz
    ·omega
    ·rename_i hov
     have hp:∀q,p=some q→q.first≤t.first:=fun q hq=>by subst hq;exact Agz hna
     have h3:(t::Cr t s).length≤3:=by
      have h4:=Al0 t s
      have h5:¬(Cr t s).length=3:=fun k=>hov (.inl k)
      rw [List.length_cons]
      omega
     have heq:∀e,t.first≤e→hits (L++ [t]) e=hits (t::Cr t s) e:=fun e he=>by
      rw [Ix,Xe,Amx t s e he,h2 e (fun q hq=>Int.le_trans (hp q hq) he)]
     have:=ih (some t) (t::Cr t s) (L++ [t]) hz h3 (fun e=> ?_) (fun e he=>heq e (he t rfl)) e
     ·rw [List.append_assoc] at this;exact this
     ·by_cases he:t.first≤e
      ·rw [heq e he];exact Nat.le_trans (Amy _ _) h3
      ·rw [Ix,if_neg (fun k=>he k.1)];exact h1 e
theorem Alf (n:Int) (l:List Tp):∀(p:Option Tp) (s:List Tp),Es n p s l=0→∀t∈l,t.inR n:=by
 induction l with
 |nil=>intro p s _ t ht;cases ht
 |cons t l ih=>
  intro p s hz x hx
  rw [Es] at hz
  split at hz
  ·omega
  ·rename_i hin
   split at hz
   ·omega
   ·split at hz
    ·omega
    ·rcases List.mem_cons.1 hx with e|e
     ·rw [e];exact Decidable.not_not.1 hin
     ·exact ih _ _ hz x e
structure Tups (l:List Tp) (n:Int):Prop where
 bd:0≤n∧n≤128
 len:l.length≤16
 inR:∀t∈l,t.inR n
 ok:∀t∈l,t.ok
 hits:∀e,hits l e≤3
theorem Vc {l:List Tp} {n:Int} (h:¬D9 l n≠0):Tups l n:=by
 have h0:D9 l n=0:=by omega
 unfold D9 at h0
 split at h0
 ·omega
 ·split at h0
  ·omega
  ·have hi:=Alf n l _ _ h0
   refine ⟨by omega,by omega,hi,fun t ht=>(hi t ht).ok (by omega),fun e=> ?_⟩
   have:=Agg n l none [] [] h0 (by decide) (fun e=>Nat.zero_le _) (fun e _=>rfl) e
   rwa [List.nil_append] at this
def C1 (l:List Tp):Nat→List Int→List Int
 |_, []=> []
 |i,w::r=>Eb l i w::C1 l (i+1) r
def Jk (l:List Tp):Nat→List Int→Int
 |_, []=>0
 |i,w::r=>if D2 l i w≠0 then D2 l i w else Jk l (i+1) r
def C7 (l:List Tp) (ws:List Int):Int:=if D9 l ws.length≠0 then D9 l ws.length else Jk l 0 ws
def Hu (l:List Tp) (ws:List Int):List Int:=if C7 l ws=0 then C1 l 0 ws else []
theorem Ag7 (l:List Tp) (a:List Int) (w:Int):∀i,C1 l i (a++ [w])=C1 l i a++ [Eb l ((i+a.length:Nat):Int) w]:=by
 induction a with
 |nil=>intro i;rfl
 |cons x a ih=>
  intro i
  rw [List.cons_append,C1,ih (i+1),C1,List.cons_append,List.length_cons,show i+1+a.length=i+(a.length+1) by omega]
theorem Add {l:List Tp} {ws:List Int} {k:Nat} {w:Int} (h:ws[k]? =some w):C1 l 0 (ws.take (k+1))=C1 l 0 (ws.take k)++ [Eb l (k:Int) w]:=by
 have hk:=(List.getElem?_eq_some_iff.1 h).1
 rw [Bz h,Ag7,List.length_take,Nat.zero_add,Nat.min_eq_left (by omega)]
theorem Ja (l:List Tp) (ws:List Int):∀i,(C1 l i ws).length=ws.length:=by
 induction ws with
 |nil=>intro i;rfl
 |cons w r ih=>intro i;rw [C1,List.length_cons,ih,List.length_cons]
theorem Ais {l:List Tp} {ws:List Int} {k:Nat} {w:Int} (h:ws[k]? =some w) (hx:¬D2 l k w≠0):Jk l k (ws.drop k)=Jk l (k+1) (ws.drop (k+1)):=by rw [B1 h,Jk,if_neg hx]
theorem Y5 {l:List Tp} {ws:List Int} {k:Nat} {w:Int} (h:ws[k]? =some w) (hx:D2 l k w≠0):Jk l k (ws.drop k)=D2 l k w:=by rw [B1 h,Jk,if_pos hx]
theorem Aih {l:List Tp} {ws:List Int} (h:D9 l ws.length≠0): []=Hu l ws∧D9 l ws.length=C7 l ws:=by
 have e:C7 l ws=D9 l ws.length:=by rw [C7,if_pos h]
 exact ⟨by rw [Hu,e,if_neg h],e.symm⟩
theorem Aig {l:List Tp} {ws:List Int} (h:¬D9 l ws.length≠0) {e:Int} (he:e=Jk l 0 ws) (hn:e≠0): []=Hu l ws∧e=C7 l ws:=by
 have e2:C7 l ws=e:=by rw [C7,if_neg h,he]
 exact ⟨by rw [Hu,e2,if_neg hn],e2.symm⟩
theorem Aif {l:List Tp} {ws:List Int} (h:¬D9 l ws.length≠0) (he:Jk l 0 ws=0):C1 l 0 ws=Hu l ws∧0=C7 l ws:=by
 have e2:C7 l ws=0:=by rw [C7,if_neg h,he]
 exact ⟨by rw [Hu,e2,if_pos rfl],e2.symm⟩
theorem Sa (l:List Tp) (ws:List Int):XC Tryz.prog 169 [.sl 4 (l.map Tp.c), .sl 1 (Ci ws)] (fun r=>r= .tup [.sl 1 (Ci (Hu l ws)),dI (C7 l ws)]):=by
 refine Am Abo Tryz.func169 R R lb<|zr<|za R R<|za R R<|zn<|zs<|zr<|zm R R<|zm R R<|XL.len R R R Tryz.underlying45 fun hl14=>XL.call1 R R (Wj _ _) R<|za R R<|znr<|zm R R<|?_
 refine zp (Az R R R)<|zn<|?_
 refine zd R (fun c17=> ?_) (fun c17=> ?_)
 refine zr<|zm R R<|za R R<|za R R<|zn<|zt<|?_
 exact Ax R (RV.nil (sz:=1) R R) (RV.tmp R R) (r2 (rSl (Aih c17).1) (rI (Aih c17).2))
 refine zi<|zs<|?_
 have hT:=Vc c17
 have hbd:=hT.bd
 refine Ag (by kernel_rfl)<|zm R R<|XL.len R R R Tryz.underlying45 fun hl20=>XL.step R (O2 21 (m:=0) (z:=(.int .i64 0)) (zs:= [dI 0]) (sz:=1) (bytes:=8) R R R Tryz.underlying45 (by kernel_rfl) (by kernel_rfl) (by kernel_rfl) (by decide) (by decide) (by omega) (by unfold maxLen;omega) (by omega))<|zp (Av R (by conv=>lhs;whnf))<|?_
 refine zn<|zs<|zr<|zm R R<|XL.len R R R Tryz.underlying45 fun hl23=>zm R R<|zn<|Ah<|?_
 refine A0 (α:=Nat) (fun k=>k≤ws.length∧Jk l k (ws.drop k)=Jk l 0 ws) (fun k=>mkF [(0, .d (.sl 4 (l.map Tp.c))),(7, .own 21),(22, .d (.sl 1 (Ci ws))),(23, .d (dI ws.length)),(24, .d (dI k))]) (fun k=>mkH [(21, .row 3 1 ((C1 l 0 (ws.take k)).map iv))]) (fun k=>ws.length - k) (0) (⟨Nat.zero_le _,by rw [List.drop_zero]⟩) ?_ ?_ ?_
 exact fz ⟨sr,sr,sr,sr,sr,trivial⟩
 exact gz ⟨R,trivial⟩
 intro k hk0
 obtain ⟨hk,hgo⟩:=hk0
 refine zr<|zp (As R R R)<|zn<|zs<|?_
 refine zd R (fun c25=> ?_) (fun c25=> ?_)
 have hk0a:k<ws.length:=by omega
 obtain ⟨x0,hx0⟩:=Aw hk0a
 have hok:=hT.ok
 have hh:=hT.hits k
 have hll:(C1 l 0 (ws.take k)).length=k:=by rw [Ja,List.length_take];omega
 refine zi<|zs<|Ah<|zr<|zm R R<|zp (Ap R R R Dt hx0)<|zp (Ba R R Ai)<|za R R<|za R R<|znr<|zm R R<|zm R R<|zm R R<|XL.call1 R R (Y3 _ _ _ (by assumption) (by assumption) (by omega) (by omega)) R<|?_
 refine zm R R<|zp (Ar R R R)<|zp (Ar R R R)<|za R R<|za R R<|zn<|zs<|zr<|zm R R<|zp (Az R R R)<|zn<|?_
 refine zd R (fun c37=> ?_) (fun c37=> ?_)
 refine zr<|zm R R<|za R R<|za R R<|zn<|zt<|?_
 exact Ax R (RV.nil (sz:=1) R R) (RV.tmp R R) (r2 (rSl (Aig c17 (by rw [←hgo,Y5 hx0 c37]) c37).1) (rI (Aig c17 (by rw [←hgo,Y5 hx0 c37]) c37).2))
 refine zi<|Ag (by kernel_rfl)<|zp (At R (by conv=>lhs;whnf))<|?_
 refine zm R R<|XL.step R (Bj 41 R Tryz.underlying45 Er H7 R R (by omega) (by omega))<|XL.step R (A3 R Q9 (.own R) (Src.own R) (by unfold maxLen;simp;omega) (by simp;omega))<|zp (Av R (by conv=>lhs;whnf))<|?_
 refine zn<|Ag (by kernel_rfl)<|zp (Ak R R R (by omega) (by omega))<|zm R R<|zn<|?_
 exact Al (k+1) (⟨by omega,by rw [←Ais hx0 c37];exact hgo⟩) (by omega) (fz ⟨sr,sr,sr,sr,sr,trivial⟩) (gz ⟨Io rfl (Add hx0),trivial⟩)
 have hk0b:k=ws.length:=by omega
 have hz:Jk l 0 ws=0:=by rw [←hgo,hk0b,List.drop_length];rfl
 have ht:ws.take k=ws:=by rw [hk0b,List.take_length]
 refine Au<|zr<|zp (At R (by conv=>lhs;whnf))<|?_
 refine zp (Av R (by conv=>lhs;whnf))<|?_
 refine za R R<|zn<|zt<|Cg (i:=21) R<|?_
 exact Ax R (RV.tmp R R) (RV.tmp R R) (r2 (rSl (by rw [ht];exact (Aif c17 hz).1)) (rI (Aif c17 hz).2))
abbrev N1 (l:List Tp) (i:Nat):List Tp:=(l.take l.length).drop (i+1)
def Gm (l:List Tp):Nat→List Int→Int→Option Int
 |_, [],acc=>some acc
 |i,w::r,acc=>if D2 l i w≠0 then none else Gm l (i+1) r (acc+Eb l i w)
def Hx (t:Tp) (ws:List Int):List Int:=(ws.drop t.first.toNat).take t.count.toNat
def S6 (a s:Int):Option Int:=((List.range 10).find? fun j=>decide (s=a*(3870720 / 2 ^ j))).map fun j=>(j:Int) - 1
def Gl (l:List Tp) (t:Tp) (ws:List Int):Option Int:=(Gm l t.first.toNat (Hx t ws) 0).bind (S6 t.actual)
def Tr (l:List Tp) (i:Nat) (ws:List Int):Option Int:=(l[i]?).bind fun t=>Gl (N1 l i) t ws
theorem M3 {l:List Tp} {i:Nat} {t:Tp} (h:l[i]? =some t) (ws:List Int):Tr l i ws=Gl (N1 l i) t ws:=by rw [Tr,h];rfl
theorem Apm {t:Tp} {ws:List Int} {j:Nat} (hj:j<t.count.toNat):(Hx t ws)[j]? =ws[t.first.toNat+j]? :=by
 rw [Hx,List.getElem?_take,if_pos hj,List.getElem?_drop]
theorem Age {l:List Tp} {i k:Nat} {seg:List Int} {w acc:Int} (h:seg[k]? =some w) (hx:¬D2 l i w≠0):Gm l i (seg.drop k) acc=Gm l (i+1) (seg.drop (k+1)) (acc+Eb l i w):=by rw [B1 h,Gm,if_neg hx]
theorem Agd {l:List Tp} {i k:Nat} {seg:List Int} {w acc:Int} (h:seg[k]? =some w) (hx:D2 l i w≠0):Gm l i (seg.drop k) acc=none:=by rw [B1 h,Gm,if_pos hx]
theorem Aib {l:List Tp} {i k:Nat} {seg:List Int} {acc:Int} (h:seg.length≤k):Gm l i (seg.drop k) acc=some acc:=by rw [List.drop_eq_nil_of_le h,Gm]
theorem Aqp {p:Nat→Bool} {m k:Nat} (hk:k<m) (hp:p k=true) (h:∀j,j<k→p j=false):(List.range m).find? p=some k:=by
 rw [List.find?_range_eq_some]
 exact ⟨hp,List.mem_range.2 hk,fun j hj=>by simp [h j hj]⟩
theorem Ap5 {a s:Int} {k:Nat} (hk:k<10) (hp:s=a*(3870720 / 2 ^ k)) (h:∀j,j<k→¬s=a*(3870720 / 2 ^ j)):S6 a s=some ((k:Int) - 1):=by
 rw [S6,Aqp hk (decide_eq_true hp) (fun j hj=>decide_eq_false (h j hj))];rfl
theorem Ajp {a s:Int} (h:∀j,j<10→¬s=a*(3870720 / 2 ^ j)):S6 a s=none:=by
 rw [S6,List.find?_eq_none.2 (fun j hj=>by simp [h j (List.mem_range.1 hj)])];rfl
theorem Ts {l:List Tp} {t:Tp} {ws:List Int} {s:Int} (h:Gm l t.first.toNat (Hx t ws) 0=some s):Gl l t ws=S6 t.actual s:=by rw [Gl,h];rfl
theorem Agc {l:List Tp} {t:Tp} {ws:List Int} (h:Gm l t.first.toNat (Hx t ws) 0=none):Gl l t ws=none:=by rw [Gl,h];rfl
theorem Zf {o:Option Int} (h:o=none):D.tup [dI 0,dB false]= .tup [dI (o.getD 0),dB o.isSome]:=by rw [h];rfl
theorem Amd {o:Option Int} {x:Int} (h:o=some x):D.tup [dI x,dB true]= .tup [dI (o.getD 0),dB o.isSome]:=by rw [h];rfl
theorem Arm (k:Nat):0≤(3870720:Int) / 2 ^ k∧(3870720:Int) / 2 ^ k≤3870720:=by
 have h:(0:Int)<2 ^ k:=Int.pow_pos (by omega)
 exact ⟨Int.ediv_nonneg (by omega) (by omega),Int.ediv_le_self _ (by omega)⟩
theorem Ao4 (l:List Tp) (i:Nat) (t:Tp) (ws:List Int) (ht:l[i]? =some t) (hT:Tups l ws.length):XC Tryz.prog 192 [.sl 4 (l.map Tp.c), .v (.int .i64 i), .sl 1 (Ci ws)] (fun r=>r= .tup [dI ((Gl (N1 l i) t ws).getD 0),dB (Gl (N1 l i) t ws).isSome]):=by
 have hin:=hT.inR t (List.mem_of_getElem? ht)
 have hok:=hT.ok t (List.mem_of_getElem? ht)
 have hbd:=hT.bd
 have hlen:=hT.len
 have hil:=(List.getElem?_eq_some_iff.1 ht).1
 have hin2:=hin
 simp only [Tp.inR] at hin2
 have hte:t.e=t.first+t.count:=rfl
 obtain ⟨f,hf⟩:∃f:Nat,t.first=f:=⟨t.first.toNat,by omega⟩
 have hf2:t.first.toNat=f:=by omega
 have hsl:(Hx t ws).length=t.count.toNat:=by rw [Hx,List.length_take,List.length_drop];omega
 have hoks:∀x∈(l.take l.length).drop (i+1),x.ok:=Apw (Afg hT.ok _) _
 have hhs:∀e,hits ((l.take l.length).drop (i+1)) e≤3:=fun e=>Nat.le_trans (Aj7 _ _ e) (Nat.le_trans (Q2 _ _ e) (hT.hits e))
 refine Am Aa3 Tryz.func192 R R lb<|zr<|za R R<|za R R<|znr<|zm R R<|zm R R<|zp (Ap R R R E1 (ht))<|zp (Ae (s':= .d (.agg (Tp.c t))) (A4 R R B8 lb) (by kernel_rfl))<|XL.step R (Ao 8 (l:= [.d (dI 0), .d (dI 0), .d (dI 0), .d (dI 0)]) R Dz (by kernel_rfl))<|?_
 refine XL.step R (Af (l':= [.d (dI t.first), .d (dI t.count), .d (dI t.actual), .d (dI t.normal)]) R R R R Fa R lb (by kernel_rfl))<|znr<|za R R<|zn<|zs<|zr<|zp (Aa R R Bv)<|zp (Ab R R Ai R R)<|za R R<|zn<|Ah<|?_
 refine A0 (α:=Nat × Int) (fun p=>p.1≤t.count.toNat∧Gm ((l.take l.length).drop (i+1)) (f+p.1) ((Hx t ws).drop p.1) p.2=Gm ((l.take l.length).drop (i+1)) f (Hx t ws) 0∧0≤p.2∧p.2≤(p.1:Int)*253671505920) (fun p=>mkF [(0, .d (.sl 4 (l.map Tp.c))),(1, .d (dI i)),(2, .d (.sl 1 (Ci ws))),(8, .ptr 8 0 0),(9, .d (dI p.2)),(10, .d (dI ((f+p.1:Nat):Int)))]) (fun p=>mkH [(8, .box ((Tp.c t).map S.d))]) (fun p=>t.count.toNat - p.1) ((0,0)) (⟨Nat.zero_le _,by rw [List.drop_zero];rfl,Int.le_refl _,by simp⟩) ?_ ?_ ?_
 exact fz ⟨sr,sr,sr,sr,sr, .same (sI (by rw [hf];rfl)),trivial⟩
 exact gz ⟨R,trivial⟩
 intro p hk0
 obtain ⟨hk,hgo,hs0,hs1⟩:=hk0
 refine zs<|zr<|zm R R<|zp (Ae (s':= .d (.agg (Tp.c t))) (Ac (Ad R R B8 R lb)) (by kernel_rfl))<|XL.call1 R R (Hh _ (by assumption)) R<|zp (As R R R)<|zn<|?_
 refine zd R (fun c23=> ?_) (fun c23=> ?_)
 have hkc:p.1<t.count.toNat:=by omega
 obtain ⟨w,hw⟩:∃w,ws[f+p.1]? =some w:=Aw (by omega)
 have hsw:(Hx t ws)[p.1]? =some w:=by rw [Apm hkc,hf2];exact hw
 have hh:=hhs ((f+p.1:Nat):Int)
 have hsb:=Y4 (n:=((f+p.1:Nat):Int)) (w:=w) hoks hh
 refine zi<|zs<|Ah<|zs<|B6 [] (by kernel_rfl) (by kernel_rfl) (by kernel_rfl) (by decide)<|ym R R<|ym R R<|yp (Ak R R R (by omega) (by omega))<|yp (Jp R R E1 (Bd.ati (a:=i+1) R (by omega)) Bd.no (by omega) (by omega))<|ym R R<|ym R R<|ym R R<|yp (Ap R R R Dt (hw))<|yp (Ba R R Ai)<|?_
 refine ChK.cons R (CStep.call R (Y3 _ _ _ (by assumption) (by assumption) (by omega) (by omega)) R)<|ym R R<|yp (Ar R R R)<|yp (Ar R R R)<|ya R R<|ya R R<|?_
 refine ChK.nil ⟨by kernel_rfl, ?_⟩
 refine zs<|zr<|zm R R<|zp (Az R R R)<|zn<|?_
 refine zd R (fun c40=> ?_) (fun c40=> ?_)
 refine zr<|za R R<|za R R<|zn<|zt<|?_
 exact Ax R (RV.tmp R R) (RV.tmp R R) (Zf (Agc (by rw [hf2, ←hgo];exact Agd hsw c40)))
 refine zi<|Ag (by kernel_rfl)<|zm R R<|zm R R<|zp (Ak R R R (by omega) (by omega))<|za R R<|zn<|Ag (by kernel_rfl)<|zm R R<|zp (Ak R R R (by omega) (by omega))<|za R R<|zn<|?_
 exact Al ((p.1+1,p.2+Eb ((l.take l.length).drop (i+1)) ((f+p.1:Nat):Int) w)) (⟨by simp only;omega,(Age hsw c40).symm.trans hgo,by simp only;omega,by simp only;omega⟩) (by simp only;omega) (fz ⟨sr,sr,sr,sr,sr,sr,trivial⟩) (gz ⟨rfl,trivial⟩)
 have hu:Gm ((l.take l.length).drop (i+1)) t.first.toNat (Hx t ws) 0=some p.2:=by rw [hf2, ←hgo];exact Aib (by omega)
 refine Au<|zs<|zr<|za R R<|zn<|Ah<|?_
 refine A0 (α:=Nat) (fun k=>k≤10∧∀j,j<k→¬p.2=t.actual*(3870720 / 2 ^ j)) (fun k=>mkF [(8, .ptr 8 0 0),(9, .d (dI p.2)),(13, .d (dI ((k:Int) - 1)))]) (fun k=>mkH [(8, .box ((Tp.c t).map S.d))]) (fun k=>10 - k) (0) (⟨Nat.zero_le _,fun j hj=>absurd hj (Nat.not_lt_zero _)⟩) ?_ ?_ ?_
 exact fz ⟨sr,sr,sr,trivial⟩
 exact gz ⟨R,trivial⟩
 intro k hk2
 obtain ⟨hk,hno⟩:=hk2
 have hkk:((k:Int) - 1+1).toNat=k:=by omega
 have hsh:=Arm k
 refine zs<|zr<|zm R R<|zp (Oa R R R)<|zn<|?_
 refine zd R (fun c45=> ?_) (fun c45=> ?_)
 have hml1:0≤t.actual*(3870720 / 2 ^ k):=Int.mul_nonneg (by omega) hsh.1
 have hml2:t.actual*(3870720 / 2 ^ k)≤32*3870720:=Int.mul_le_mul (by omega) hsh.2 hsh.1 (by omega)
 refine zi<|zs<|Ah<|zs<|B6 [] (by kernel_rfl) (by kernel_rfl) (by kernel_rfl) (by decide)<|ym R R<|yp (Aa R R Oj)<|yp (Ab R R Ai R R)<|ym R R<|yp (Ak R R R (by omega) (by omega))<|yp (Aob R R R (by omega) (by omega))<|yp (Mf R R R (by rw [hkk];omega) (by rw [hkk];omega))<|yp (A7 R R R)<|?_
 refine ChK.nil ⟨by kernel_rfl, ?_⟩
 refine zd R (fun c55=> ?_) (fun c55=> ?_)
 refine zr<|zm R R<|za R R<|za R R<|zn<|zt<|?_
 exact Ax R (RV.tmp R R) (RV.tmp R R) (Amd (by rw [Ts hu];exact Ap5 (by omega) (by rw [hkk] at c55;exact c55) hno))
 refine zi<|Ag (by kernel_rfl)<|zm R R<|zp (Ak R R R (by omega) (by omega))<|za R R<|zn<|?_
 exact Al (k+1) (⟨by omega,fun j hj=>by by_cases e:j=k;(· subst e;rw [hkk] at c55;exact c55);(· exact hno j (by omega))⟩) (by omega) (fz ⟨sr,sr, .same (sI (by omega)),trivial⟩) (gz ⟨rfl,trivial⟩)
 have hke:k=10:=by omega
 have hnone:S6 t.actual p.2=none:=Ajp (fun j hj=>hno j (by omega))
 refine Au<|zr<|za R R<|za R R<|zn<|zt<|?_
 exact Ax R (RV.tmp R R) (RV.tmp R R) (Zf (by rw [Ts hu];exact hnone))
theorem N0 {l:List Tp} {ws:List Int} (h:¬C7 l ws≠0):Tups l ws.length:=by
 unfold C7 at h
 split at h
 ·rename_i h2;exact absurd h2 h
 ·rename_i h2;exact Vc h2
def Mr (l:List Tp) (ws:List Int):Prop:=∀j,j<l.length→(Tr l j ws).isSome=true
instance (l:List Tp) (ws:List Int):Decidable (Mr l ws):=by unfold Mr;exact inferInstance
def E9 (l:List Tp) (ws:List Int):Int:=if C7 l ws≠0 then C7 l ws else if Mr l ws then 0 else 21
def Nz (l:List Tp) (ws:List Int) (k:Nat):List Int:=(List.range k).map fun j=>(Tr l j ws).getD 0
def M4 (l:List Tp) (ws:List Int):List Int:=if E9 l ws=0 then Nz l ws l.length else []
theorem Agf {l:List Tp} {ws:List Int} {k:Nat} {t:Tp} (h:l[k]? =some t):Nz l ws (k+1)=Nz l ws k++ [(Gl (N1 l k) t ws).getD 0]:=by
 rw [Nz,List.range_succ,List.map_append,List.map_singleton,M3 h];rfl
theorem Aic (l:List Tp) (ws:List Int) (k:Nat):(Nz l ws k).length=k:=by rw [Nz,List.length_map,List.length_range]
theorem Are {l:List Tp} {ws:List Int} (h:C7 l ws≠0): []=M4 l ws∧C7 l ws=E9 l ws:=by
 have e:E9 l ws=C7 l ws:=by rw [E9,if_pos h]
 exact ⟨by rw [M4,e,if_neg h],e.symm⟩
theorem Ard {l:List Tp} {ws:List Int} (h:¬C7 l ws≠0) {k:Nat} {t:Tp} (ht:l[k]? =some t) (hn:(!(Gl (N1 l k) t ws).isSome)=true): []=M4 l ws∧21=E9 l ws:=by
 have e:E9 l ws=21:=by
  rw [E9,if_neg h,if_neg fun ha=> ?_]
  have:=ha k (List.getElem?_eq_some_iff.1 ht).1
  rw [M3 ht] at this
  rw [this] at hn
  cases hn
 exact ⟨by rw [M4,e,if_neg (by decide)],e.symm⟩
theorem Arc {l:List Tp} {ws:List Int} (h:¬C7 l ws≠0) (ha:Mr l ws):Nz l ws l.length=M4 l ws∧0=E9 l ws:=by
 have e:E9 l ws=0:=by rw [E9,if_neg h,if_pos ha]
 exact ⟨by rw [M4,e,if_pos rfl],e.symm⟩
theorem Ale (l:List Tp) (ws:List Int):XC Tryz.prog 170 [.sl 4 (l.map Tp.c), .sl 1 (Ci ws)] (fun r=>r= .tup [.sl 1 (Ci (M4 l ws)),dI (E9 l ws)]):=by
 refine Am Abn Tryz.func170 R R lb<|zr<|za R R<|za R R<|zn<|zs<|zr<|zm R R<|zm R R<|XL.call1 R R (Sa _ _) R<|zm R R<|zp (Ar R R R)<|zp (Ar R R R)<|za R R<|?_
 refine za R R<|znr<|zm R R<|zp (Az R R R)<|zn<|?_
 refine zd R (fun c19=> ?_) (fun c19=> ?_)
 refine zr<|zm R R<|za R R<|za R R<|zn<|zt<|?_
 exact Ax R (RV.nil (sz:=1) R R) (RV.tmp R R) (r2 (rSl (Are c19).1) (rI (Are c19).2))
 refine zi<|zs<|?_
 have hT:=N0 c19
 have hbd:=hT.bd
 have hlen:=hT.len
 refine Ag (by kernel_rfl)<|zm R R<|XL.len R R R Tryz.underlying80 fun hl22=>XL.step R (O2 23 (m:=0) (z:=(.int .i64 0)) (zs:= [dI 0]) (sz:=1) (bytes:=8) R R R Tryz.underlying45 (by kernel_rfl) (by kernel_rfl) (by kernel_rfl) (by decide) (by decide) (by omega) (by unfold maxLen;omega) (by omega))<|zp (Av R (by conv=>lhs;whnf))<|?_
 refine zn<|zs<|zr<|zm R R<|XL.len R R R Tryz.underlying80 fun hl25=>zm R R<|zn<|Ah<|?_
 refine A0 (α:=Nat) (fun k=>k≤l.length∧∀j,j<k→(Tr l j ws).isSome=true) (fun k=>mkF [(0, .d (.sl 4 (l.map Tp.c))),(1, .d (.sl 1 (Ci ws))),(8, .own 23),(25, .d (dI l.length)),(26, .d (dI k))]) (fun k=>mkH [(23, .row 3 1 ((Nz l ws k).map iv))]) (fun k=>l.length - k) (0) (⟨Nat.zero_le _,fun j hj=>absurd hj (Nat.not_lt_zero _)⟩) ?_ ?_ ?_
 exact fz ⟨sr,sr,sr,sr,sr,trivial⟩
 exact gz ⟨R,trivial⟩
 intro k hk0
 obtain ⟨hk,hall⟩:=hk0
 refine zr<|zp (As R R R)<|zn<|zs<|?_
 refine zd R (fun c27=> ?_) (fun c27=> ?_)
 have hk0a:k<l.length:=by omega
 obtain ⟨x0,hx0⟩:=Aw hk0a
 have hll:=Aic l ws k
 refine zi<|zs<|Ah<|zr<|zm R R<|za R R<|znr<|zm R R<|zm R R<|zm R R<|XL.call1 R R (Ao4 _ _ _ _ hx0 hT) R<|zm R R<|zp (Ar R R R)<|zp (Ar R R R)<|?_
 refine za R R<|za R R<|zn<|zs<|zr<|zm R R<|zp (Ek R R)<|zn<|?_
 refine Fd (by kernel_rfl) R (fun c37=> ?_) (fun c37=> ?_)
 refine zr<|za R R<|za R R<|zn<|zt<|?_
 exact Ax R (RV.nil (sz:=1) R R) (RV.tmp R R) (r2 (rSl (Ard c19 hx0 c37).1) (rI (Ard c19 hx0 c37).2))
 refine zi<|Ag (by kernel_rfl)<|zp (At R (by conv=>lhs;whnf))<|?_
 refine zm R R<|XL.step R (Bj 40 R Tryz.underlying45 Er H7 R R (by omega) (by omega))<|XL.step R (A3 R Q9 (.own R) (Src.own R) (by unfold maxLen;simp;omega) (by simp;omega))<|zp (Av R (by conv=>lhs;whnf))<|?_
 refine zn<|Ag (by kernel_rfl)<|zp (Ak R R R (by omega) (by omega))<|zm R R<|zn<|?_
 exact Al (k+1) (⟨by omega,fun j hj=>by by_cases e:j=k;(· subst e;rw [M3 hx0];exact (by simpa using c37));(· exact hall j (by omega))⟩) (by omega) (fz ⟨sr,sr,sr,sr,sr,trivial⟩) (gz ⟨Io rfl (Agf hx0),trivial⟩)
 have hk0b:k=l.length:=by omega
 have ha:Mr l ws:=fun j hj=>hall j (by omega)
 refine Au<|zr<|zp (At R (by conv=>lhs;whnf))<|?_
 refine zp (Av R (by conv=>lhs;whnf))<|?_
 refine za R R<|zn<|zt<|Cg (i:=23) R<|?_
 exact Ax R (RV.tmp R R) (RV.tmp R R) (r2 (rSl (by rw [hk0b];exact (Arc c19 ha).1)) (rI (Arc c19 ha).2))
def Ia (l:List Tp) (n:Int):Int:=if D9 l 128≠0 then 0 else (hits l n:Int)
theorem Amw {l:List Tp} {k:Nat} {t:Tp} {n:Int} (h:l[k]? =some t) (ht:t.has n):hits (l.take (k+1)) n=hits (l.take k) n+1:=by rw [Bz h,Ix,if_pos ht]
theorem Aqf {l:List Tp} {k:Nat} {t:Tp} {n:Int} (h:l[k]? =some t) (ht:¬t.has n):hits (l.take (k+1)) n=hits (l.take k) n:=by rw [Bz h,Ix,if_neg ht];rfl
theorem Ans (l:List Tp) (n:Int) (h0:0≤n) (h1:n≤128):XC Tryz.prog 152 [.sl 4 (l.map Tp.c), .v (.int .i64 n)] (fun r=>r=dI (Ia l n)):=by
 refine Am Ab5 Tryz.func152 R R lb<|zr<|za R R<|zn<|zs<|zr<|zm R R<|XL.call1 R R (Wj _ _) R<|zp (Az R R R)<|zn<|?_
 refine zd R (fun c10=> ?_) (fun c10=> ?_)
 exact zr<|za R R<|zn<|zt<|z1 R R (rI (by rw [Ia,if_pos c10]))
 refine zi<|zs<|?_
 have hT:=Vc c10
 refine Ag (by kernel_rfl)<|za R R<|zn<|zs<|zr<|zm R R<|XL.len R R R Tryz.underlying80 fun hl12=>zm R R<|zn<|Ah<|?_
 refine A0 (α:=Nat) (fun k=>k≤l.length) (fun k=>mkF [(1, .d (dI n)),(4, .d (dI 0)),(5, .d (dI (hits (l.take k) n:Int))),(11, .d (.sl 4 (l.map Tp.c))),(12, .d (dI l.length)),(13, .d (dI k))]) (fun k=>mkH []) (fun k=>l.length - k) (0) (Nat.zero_le _) ?_ ?_ ?_
 exact fz ⟨sr,sr,sr,sr,sr,sr,trivial⟩
 exact HSub.nil
 intro k hk0
 refine zr<|zp (As R R R)<|zn<|zs<|?_
 refine zd R (fun c14=> ?_) (fun c14=> ?_)
 have hk0a:k<l.length:=by omega
 obtain ⟨x0,hx0⟩:=Aw hk0a
 have hok:=hT.ok x0 (List.mem_of_getElem? hx0)
 have hle:=Nat.le_trans (Q2 l k n) (hT.hits n)
 refine zi<|zs<|Ah<|zr<|zp (Ap R R R E1 hx0)<|zp (Ae (s':= .d (.agg (Tp.c x0))) (A4 R R B8 lb) (by kernel_rfl))<|XL.step R (Ao 7 (l:= [.d (dI 0), .d (dI 0), .d (dI 0), .d (dI 0)]) R Dz (by kernel_rfl))<|XL.step R (Af (l':= [.d (dI x0.first), .d (dI x0.count), .d (dI x0.actual), .d (dI x0.normal)]) R R R R Fa R lb (by kernel_rfl))<|znr<|?_
 refine zp (Ae (s':= .d (.agg (Tp.c x0))) (Ac (Ad R R B8 R lb)) (by kernel_rfl))<|zm R R<|XL.call1 R R (Sh _ _ (by assumption) (by omega) (by omega)) R<|zn<|?_
 refine zd R (fun c19=> ?_) (fun c19=> ?_)
 refine Ag (by kernel_rfl)<|zm R R<|zp (Ak R R R (by omega) (by omega))<|za R R<|zn<|Ag (by kernel_rfl)<|zp (Ak R R R (by omega) (by omega))<|zm R R<|zn<|?_
 exact Al (k+1) (by omega) (by omega) (fz ⟨sr,sr, .same (sI (by rw [Amw hx0 c19];rfl)),sr,sr,sr,trivial⟩) (HSub.nil)
 refine zi<|Ag (by kernel_rfl)<|zp (Ak R R R (by omega) (by omega))<|zm R R<|zn<|?_
 exact Al (k+1) (by omega) (by omega) (fz ⟨sr,sr, .same (sI (by rw [Aqf hx0 c19])),sr,sr,sr,trivial⟩) (HSub.nil)
 have hk0b:k=l.length:=by omega
 have ht:l.take k=l:=by rw [hk0b,List.take_length]
 exact Au<|zr<|zm R R<|za R R<|zn<|zt<|z1 R R (rI (by rw [Ia,if_neg c10,ht]))
end Go.Proofs.YtaafemnkamfgnaaGreat
namespace Go.Proofs.YtaafemnkamfgnaaGreat
open Go.RowKit
def tot (l:List Int):Int:=l.foldl (· + ·) 0
theorem Pd (l:List Int) (x:Int):tot (l++ [x])=tot l+x:=by unfold tot;rw [List.foldl_append];rfl
theorem Ss {l:List Int} {k:Nat} {x:Int} (h:l[k]? =some x):tot (l.take (k+1))=tot (l.take k)+x:=by rw [Bz h,Pd]
structure Nums (l:List Int):Prop where
 len:l.length≤128
 bd:∀x∈l,0≤x∧x≤253671505920
theorem Ao8 {l:List Int}:(∀x∈l,0≤x∧x≤253671505920)→0≤tot l∧tot l≤(l.length:Int)*253671505920:=by
 refine Su (p:=fun l=>(∀x∈l,0≤x∧x≤253671505920)→0≤tot l∧tot l≤(l.length:Int)*253671505920) (fun _=>by simp [tot]) (fun l x ih h=> ?_) l
 have h1:=ih fun y hy=>h y (List.mem_append_left _ hy)
 have h2:=h x (List.mem_append_right _ (List.mem_singleton.2 rfl))
 rw [Pd,List.length_append,List.length_singleton,Int.natCast_add,Int.add_mul]
 omega
theorem Nums.tot {l:List Int} (h:Nums l):0≤Go.Proofs.YtaafemnkamfgnaaGreat.tot l∧Go.Proofs.YtaafemnkamfgnaaGreat.tot l≤32469952757760:=by
 have:=Ao8 h.bd
 have:=h.len
 omega
theorem Nums.take {l:List Int} (h:Nums l) (k:Nat):Nums (l.take k):=⟨Nat.le_trans (List.length_take_le' _ _) h.len,fun x hx=>h.bd x (List.mem_of_mem_take hx)⟩
def Evs (l:List Ev):Prop:=∀e∈l,e.art≤9223372036854775807
def wrS (l:List Ev):List Int:=l.map Ev.len
theorem Alg (l:List Int) (h:Nums l):XC Tryz.prog 116 [.sl 1 (Ci l)] (fun r=>r=dI (tot l)):=by
 refine Am Acj Tryz.func116 R R lb<|zr<|za R R<|znr<|za R R<|zn<|zs<|zr<|zm R R<|XL.len R R R Tryz.underlying45 fun hl7=>zm R R<|zn<|Ah<|?_
 refine A0 (α:=Nat) (fun k=>k≤l.length) (fun k=>mkF [(2, .d (dI 0)),(3, .d (dI (tot (l.take k)))),(6, .d (.sl 1 (Ci l))),(7, .d (dI l.length)),(8, .d (dI k))]) (fun k=>mkH []) (fun k=>l.length - k) (0) (Nat.zero_le _) ?_ ?_ ?_
 exact fz ⟨sr,sr,sr,sr,sr,trivial⟩
 exact HSub.nil
 intro k hk0
 refine zr<|zp (As R R R)<|zn<|zs<|?_
 refine zd R (fun c9=> ?_) (fun c9=> ?_)
 have hk0a:k<l.length:=by omega
 obtain ⟨x0,hx0⟩:=Aw hk0a
 have h1:=(h.take k).tot
 have h2:=h.bd x0 (List.mem_of_getElem? hx0)
 refine zi<|zs<|Ah<|zr<|zp (Ap R R R Dt hx0)<|zp (Ba R R Ai)<|za R R<|zng<|zm R R<|zm R R<|zp (Ak R R R (by omega) (by omega))<|za R R<|zn<|Ag (by kernel_rfl)<|?_
 refine zp (Ak R R R (by omega) (by omega))<|zm R R<|zn<|?_
 exact Al (k+1) (by omega) (by omega) (fz ⟨sr, .same (sI (by rw [Ss hx0])),sr,sr,sr,trivial⟩) (HSub.nil)
 have hk0b:k=l.length:=by omega
 have ht:l.take k=l:=by rw [hk0b,List.take_length]
 exact Au<|zr<|zm R R<|za R R<|zn<|zt<|z1 R R (rI (by rw [ht]))
def Kp (l:List Int) (k:Nat):List Int:=(List.range l.length).map fun j=>if j<k then tot (l.take j) else 0
def Bc (l:List Int):List Int:=(List.range l.length).map fun j=>tot (l.take j)
theorem Zh (l:List Int) (k:Nat):(Kp l k).length=l.length:=by rw [Kp,List.length_map,List.length_range]
theorem Amf (l:List Int):List.replicate l.length (0:Int)=Kp l 1:=by
 rw [Kp]
 refine List.ext_getElem? fun j=> ?_
 rw [List.getElem?_replicate,List.getElem?_map]
 by_cases h:j<l.length
 ·rw [if_pos h,List.getElem?_range h,Option.map_some]
  congr 1
  split
  ·have:j=0:=by omega
   subst this;rfl
  ·rfl
 ·rw [if_neg h,List.getElem?_eq_none (by rw [List.length_range];omega)];rfl
theorem Zi {l:List Int} {j k:Nat} (h:j<k) (hj:j<l.length):(Kp l k)[j]? =some (tot (l.take j)):=by
 rw [Kp,List.getElem?_map,List.getElem?_range hj,Option.map_some,if_pos h]
theorem Ame {l:List Int} {k:Nat} (hk:k<l.length):(Kp l k).set k (tot (l.take k))=Kp l (k+1):=by
 refine List.ext_getElem? fun j=> ?_
 rw [List.getElem?_set]
 split
 ·rename_i h
  subst h
  rw [if_pos (by rw [Zh];exact hk),Zi (by omega) hk]
 ·rename_i h
  rw [Kp,Kp,List.getElem?_map,List.getElem?_map]
  by_cases hj:j<l.length
  ·rw [List.getElem?_range hj,Option.map_some,Option.map_some]
   congr 1
   by_cases e:j<k
   ·rw [if_pos e,if_pos (by omega)]
   ·rw [if_neg e,if_neg (by omega)]
  ·rw [List.getElem?_eq_none (by rw [List.length_range];omega)];rfl
theorem Amg {l:List Int} {k:Nat} (hk:l.length≤k):Kp l k=Bc l:=by
 rw [Kp,Bc]
 refine List.map_congr_left fun j hj=> ?_
 rw [if_pos (by have:=List.mem_range.1 hj;omega)]
theorem Ww (l:List Int) (h:Nums l):XC Tryz.prog 96 [.sl 1 (Ci l)] (fun r=>r= .sl 1 (Ci (Bc l))):=by
 have hll:=h.len
 refine Am Ado Tryz.func96 R R lb<|zr<|za R R<|znr<|zm R R<|XL.len R R R Tryz.underlying45 fun hl6=>XL.step R (O2 7 (z:=(.int .i64 0)) (zs:= [dI 0]) (sz:=1) (bytes:=8) R R R Tryz.underlying45 (by kernel_rfl) (by kernel_rfl) (by kernel_rfl) (by decide) (by decide) (by omega) (by unfold maxLen;omega) (by omega))<|zp (Av R (by conv=>lhs;whnf))<|?_
 refine zn<|zs<|zr<|za R R<|zn<|Ah<|?_
 refine A0 (α:=Nat) (fun k=>1≤k∧k≤l.length+1) (fun k=>mkF [(0, .d (.sl 1 (Ci l))),(2, .d (.v (.slice none 0 0))),(3, .own 7),(4, .d (dI k))]) (fun k=>mkH [(7, .row 3 1 ((Kp l k).map iv))]) (fun k=>l.length+1 - k) (1) (⟨Nat.le_refl _,by omega⟩) ?_ ?_ ?_
 exact fz ⟨sr,sr,sr,sr,trivial⟩
 exact gz ⟨by rw [←Amf,List.map_replicate];rfl,trivial⟩
 intro k hk0
 refine zs<|zr<|zm R R<|zm R R<|XL.len R R R Tryz.underlying45 fun hl10=>zp (As R R R)<|zn<|?_
 refine zd R (fun c11=> ?_) (fun c11=> ?_)
 have hkl:k<l.length:=by omega
 have h1:=(h.take (k - 1)).tot
 obtain ⟨x,hx⟩:∃x,l[k - 1]? =some x:=Aw (by omega)
 have h2:=h.bd x (List.mem_of_getElem? hx)
 have ho:=Zi (l:=l) (k:=k) (j:=k - 1) (by omega) (by omega)
 have hol:=Zh l k
 obtain ⟨z,hz⟩:∃z,(Kp l k)[k]? =some z:=Aw (by omega)
 have htk:tot (l.take k)=tot (l.take (k - 1))+x:=by have:=Ss hx;rwa [Nat.sub_add_cancel (by omega)] at this
 refine zi<|zs<|Ah<|Cj 13 [] (by kernel_rfl) (by kernel_rfl) (by kernel_rfl) (by kernel_rfl) (by decide)<|yp (At R (by conv=>lhs;whnf))<|?_
 refine ym R R<|yp (At R (by conv=>lhs;whnf))<|?_
 refine ym R R<|yp (Fk R R R (by omega) (by omega))<|yp (Cd R R R ((by omega:(k:Int) - 1=((k - 1:Nat):Int))) R Dt (by omega))<|yp (I9 R R Ai R (Cv (ho)) R)<|ym R R<|ym R R<|yp (Fk R R R (by omega) (by omega))<|yp (Mg R R R ((by omega:(k:Int) - 1=((k - 1:Nat):Int))) Dt (hx))<|yp (Ba R R Ai)<|yp (Ak R R R (by omega) (by omega))<|?_
 refine ChK.nil ⟨by kernel_rfl, ?_⟩
 refine zp (Kl R R R R Dt (by omega))<|XL.step R (Dw R R R (Cv hz) R R Er R lb)<|zn<|Ag (by kernel_rfl)<|zm R R<|zp (Ak R R R (by omega) (by omega))<|za R R<|zn<|?_
 exact Al (k+1) (by omega) (by omega) (fz ⟨sr,sr,sr,sr,trivial⟩) (gz ⟨L8 (a:=tot (l.take k)) (by rw [htk];rfl) (Ame hkl).symm,trivial⟩)
 have he:=Amg (l:=l) (k:=k) (by omega)
 refine Au<|zr<|zp (At R (by conv=>lhs;whnf))<|?_
 refine zp (Av R (by conv=>lhs;whnf))<|?_
 exact zn<|zt<|Cg (i:=7) R<|z1 R R (rSl he)
end Go.Proofs.YtaafemnkamfgnaaGreat
namespace Go.Proofs.YtaafemnkamfgnaaGreat
open Go.RowKit
def Jd (f:Nat→Int) (n k:Nat):List Int:=(List.range n).map fun j=>if j<k then f j else 0
theorem Xn (f:Nat→Int) (n k:Nat):(Jd f n k).length=n:=by rw [Jd,List.length_map,List.length_range]
theorem Ahk (f:Nat→Int) (n:Nat):List.replicate n (0:Int)=Jd f n 0:=by
 rw [Jd]
 refine List.ext_getElem? fun j=> ?_
 rw [List.getElem?_replicate,List.getElem?_map]
 by_cases h:j<n
 ·rw [if_pos h,List.getElem?_range h,Option.map_some,if_neg (by omega)]
 ·rw [if_neg h,List.getElem?_eq_none (by rw [List.length_range];omega)];rfl
theorem Akf {f:Nat→Int} {n k:Nat} (hk:k<n):Jd f n (k+1)=(Jd f n k).set k (f k):=by
 refine List.ext_getElem? fun j=> ?_
 rw [List.getElem?_set]
 split
 ·rename_i h
  subst h
  rw [if_pos (by rw [Xn];exact hk),Jd,List.getElem?_map,List.getElem?_range hk,Option.map_some,if_pos (by omega)]
 ·rename_i h
  rw [Jd,Jd,List.getElem?_map,List.getElem?_map]
  by_cases hj:j<n
  ·rw [List.getElem?_range hj,Option.map_some,Option.map_some]
   congr 1
   by_cases e:j<k
   ·rw [if_pos e,if_pos (by omega)]
   ·rw [if_neg e,if_neg (by omega)]
  ·rw [List.getElem?_eq_none (by rw [List.length_range];omega)];rfl
theorem Akg {f:Nat→Int} {n k:Nat} (hk:n≤k):Jd f n k=(List.range n).map f:=by
 rw [Jd]
 refine List.map_congr_left fun j hj=> ?_
 rw [if_pos (by have:=List.mem_range.1 hj;omega)]
def Ml (l:List Ev) (j:Nat):Int:=((l[j]?).map Ev.len).getD 0
theorem Amp {l:List Ev} {k:Nat} {e:Ev} (h:l[k]? =some e):Ml l k=e.len:=by rw [Ml,h];rfl
theorem Ajt (l:List Ev):(List.range l.length).map (Ml l)=wrS l:=by
 refine List.ext_getElem? fun j=> ?_
 rw [List.getElem?_map,wrS,List.getElem?_map]
 by_cases hj:j<l.length
 ·rw [List.getElem?_range hj,Option.map_some,Ml,List.getElem?_eq_getElem hj];rfl
 ·rw [List.getElem?_eq_none (by rw [List.length_range];omega),List.getElem?_eq_none (by omega)];rfl
theorem Ac2 (l:List Ev) (hE:Evs l) (hlen:l.length≤128):XC Tryz.prog 168 [.sl 13 (l.map Ev.c)] (fun r=>r= .sl 1 (Ci (wrS l))):=by
 refine Am Abp Tryz.func168 R R lb<|zr<|za R R<|znr<|zm R R<|XL.len R R R Tryz.underlying79 fun hl7=>XL.step R (O2 8 (z:=(.int .i64 0)) (zs:= [dI 0]) (sz:=1) (bytes:=8) R R R Tryz.underlying45 (by kernel_rfl) (by kernel_rfl) (by kernel_rfl) (by decide) (by decide) (by omega) (by unfold maxLen;omega) (by omega))<|zp (Av R (by conv=>lhs;whnf))<|?_
 refine zn<|zs<|zr<|zm R R<|XL.len R R R Tryz.underlying79 fun hl10=>zm R R<|zn<|Ah<|?_
 refine A0 (α:=Nat) (fun k=>k≤l.length) (fun k=>mkF [(2, .d (.v (.slice none 0 0))),(3, .own 8),(9, .d (.sl 13 (l.map Ev.c))),(10, .d (dI l.length)),(11, .d (dI k))]) (fun k=>mkH [(8, .row 3 1 ((Jd (Ml l) l.length k).map iv))]) (fun k=>l.length - k) (0) (Nat.zero_le _) ?_ ?_ ?_
 exact fz ⟨sr,sr,sr,sr,sr,trivial⟩
 exact gz ⟨by rw [←Ahk,List.map_replicate];rfl,trivial⟩
 intro k hk0
 refine zr<|zp (As R R R)<|zn<|zs<|?_
 refine zd R (fun c12=> ?_) (fun c12=> ?_)
 have hk0a:k<l.length:=by omega
 obtain ⟨x0,hx0⟩:=Aw hk0a
 have he:=hE x0 (List.mem_of_getElem? hx0)
 have hfl:=Xn (Ml l) l.length k
 obtain ⟨z,hz⟩:∃z,(Jd (Ml l) l.length k)[k]? =some z:=Aw (by omega)
 refine zi<|zs<|Ah<|zr<|zm R R<|zp (Ap R R R G7 hx0)<|zp (Ae (s':= .d (.agg (Ev.c x0))) (A4 R R Bq lb) (by kernel_rfl))<|XL.step R (Ao 5 (l:= [.d (dI 0), .d (dI 0), .d (dI 0), .d (dI 0), .d (dI 0), .d (.v (.slice none 0 0)), .d (.v (.slice none 0 0)), .d (dI 0), .d (dI 0), .d (dI 0), .d (.v (.slice none 0 0)), .d (dI 0), .d (dI 0)]) R Ca (by kernel_rfl))<|?_
 refine za R R<|XL.step R (Af (l':= [.d (dI x0.site), .d (dI x0.num), .d (dI x0.kind), .d (dI x0.v.log), .d (dI x0.v.dots), .d (.sl 5 (x0.heads.map Hd.c)), .d (.sl 5 (x0.graces.map Gr.c)), .d (dI x0.art), .d (dI x0.orn), .d (dI x0.dyn), .d (.sl 2 (x0.lyr.map Sy.c)), .d (dI x0.stem), .d (dI x0.beam)]) R R R R Cy R lb (by kernel_rfl))<|zng<|zp (At R (by conv=>lhs;whnf))<|?_
 refine zm R R<|zp (Ae (s':= .d (.agg (Ev.c x0))) (Ac (Ad R R Bq R lb)) (by kernel_rfl))<|XL.call1 R R (Af6 _ (by assumption)) R<|zm R R<|zp (Ar R R R)<|zp (Ar R R R)<|zp (Kl R R R R Dt (by omega))<|XL.step R (Dw R R R (Cv hz) R R Er R lb)<|zn<|Ag (by kernel_rfl)<|zp (Ak R R R (by omega) (by omega))<|zm R R<|zn<|?_
 exact Al (k+1) (by omega) (by omega) (fz ⟨sr,sr,sr,sr,sr,trivial⟩) (gz ⟨L8 (a:=Ml l k) (by rw [Amp hx0];rfl) (Akf hk0a),trivial⟩)
 have hk0b:k=l.length:=by omega
 have he:=Akg (f:=Ml l) (n:=l.length) (k:=k) (by omega)
 refine Au<|zr<|zp (At R (by conv=>lhs;whnf))<|?_
 refine zp (Av R (by conv=>lhs;whnf))<|?_
 exact zn<|zt<|Cg (i:=8) R<|z1 R R (rSl (by rw [he,Ajt]))
def Vo.whole (v:Vo):Prop:=match v.evs with| []=>False|e::_=>e.kind=3
instance (v:Vo):Decidable v.whole:=by unfold Vo.whole;cases v.evs<;>exact inferInstance
theorem Jy {v:Vo} {e:Ev} (h:v.evs[0]? =some e):v.whole↔e.kind=3:=by
 unfold Vo.whole
 cases hv:v.evs with
 |nil=>rw [hv] at h;cases h
 |cons x l=>rw [hv] at h;cases h;exact Iff.rfl
theorem Ald {v:Vo} (h:¬0<(v.evs.length:Int)):¬v.whole:=by
 unfold Vo.whole
 cases hv:v.evs with
 |nil=>exact fun h=>h
 |cons x l=>rw [hv] at h;simp at h
def Vo.absent (v:Vo):Prop:=v.evs.length=0∧v.tups.length=0
instance (v:Vo):Decidable v.absent:=by unfold Vo.absent;exact inferInstance
theorem Alc (v:Vo):XC Tryz.prog 143 [.agg (Vo.c v)] (fun r=>r=dB (decide v.whole)):=by
 refine Am Ab8 Tryz.func143 R R lb<|zr<|XL.step R (An 1 (l:= [.d (.sl 13 (v.evs.map Ev.c)), .d (.sl 4 (v.tups.map Tp.c))]) R R (by kernel_rfl))<|za R R<|znr<|zp (Aa R R Bk)<|zp (Ab R R Cz R R)<|XL.len R R R Tryz.underlying79 fun hl5=>zp (Bb R R R)<|zm R R<|?_
 refine XL.dec 7 R (fun g7=> ?_) (fun g7=> ?_)
 obtain ⟨e,he⟩:∃e,v.evs[0]? =some e:=Aw (by omega)
 exact zp (Aa R R Bk)<|zp (Ab R R Cz R R)<|zp (Ap (k:=0) R R R G7 (he))<|zp (Ff R R Df)<|zp (Ba R R Ai)<|zp (A7 R R R)<|zq R R R<|za R R<|zn<|zt<|z1 R R (rB (by rw [decide_eq_decide];exact (Jy he).symm))
 exact zk 6 R<|zq R R R<|za R R<|zn<|zt<|z1 R R (rB (by rw [eq_comm,decide_eq_false_iff_not];exact Ald g7))
theorem Agb (v:Vo):XC Tryz.prog 129 [.agg (Vo.c v)] (fun r=>r=dB (decide v.absent)):=by
 refine Am Ach Tryz.func129 R R lb<|zr<|XL.step R (An 1 (l:= [.d (.sl 13 (v.evs.map Ev.c)), .d (.sl 4 (v.tups.map Tp.c))]) R R (by kernel_rfl))<|za R R<|znr<|zp (Aa R R Bk)<|zp (Ab R R Cz R R)<|XL.len R R R Tryz.underlying79 fun hl5=>zp (A7 R R R)<|zm R R<|?_
 refine XL.dec 7 R (fun g7=> ?_) (fun g7=> ?_)
 exact zp (Aa R R B3)<|zp (Ab R R B5 R R)<|XL.len R R R Tryz.underlying80 fun hl10=>zp (A7 R R R)<|zq R R R<|za R R<|zn<|zt<|z1 R R (rB (by rw [decide_eq_decide];unfold Vo.absent;omega))
 exact zk 4 R<|zq R R R<|za R R<|zn<|zt<|z1 R R (rB (by rw [eq_comm,decide_eq_false_iff_not];unfold Vo.absent;omega))
def He (n:Nat):Nat→List Ev→Int
 |_, []=>0
 |k,e::r=>if e.err≠0 then e.err else if e.kind=3∧(0<k∨1<n) then 11 else He n (k+1) r
def Fo (v:Vo):Int:=
 if He v.evs.length 0 v.evs≠0 then He v.evs.length 0 v.evs else if C7 v.tups (wrS v.evs)≠0 then C7 v.tups (wrS v.evs) else if E9 v.tups (wrS v.evs)≠0 then 21 else 0
def Hc (v:Vo):List Int:=if Fo v=0 then Hu v.tups (wrS v.evs) else []
theorem Z0 {n k:Nat} {l:List Ev} {e:Ev} (h:l[k]? =some e) (he:e.err≠0):He n k (l.drop k)=e.err:=by rw [B1 h,He,if_pos he]
theorem Oh {n k:Nat} {l:List Ev} {e:Ev} (h:l[k]? =some e) (he:¬e.err≠0) (hk:e.kind=3∧(0<k∨1<n)):He n k (l.drop k)=11:=by rw [B1 h,He,if_neg he,if_pos hk]
theorem Xc {n k:Nat} {l:List Ev} {e:Ev} (h:l[k]? =some e) (he:¬e.err≠0) (hk:¬(e.kind=3∧(0<k∨1<n))):He n k (l.drop k)=He n (k+1) (l.drop (k+1)):=by rw [B1 h,He,if_neg he,if_neg hk]
theorem R2 {v:Vo} {e:Int} (he:e=He v.evs.length 0 v.evs) (hn:e≠0): []=Hc v∧e=Fo v:=by
 have e2:Fo v=e:=by rw [Fo, ←he,if_pos hn]
 exact ⟨by rw [Hc,e2,if_neg hn],e2.symm⟩
theorem Aoi {v:Vo} (h:He v.evs.length 0 v.evs=0) (hn:C7 v.tups (wrS v.evs)≠0): []=Hc v∧C7 v.tups (wrS v.evs)=Fo v:=by
 have e2:Fo v=C7 v.tups (wrS v.evs):=by rw [Fo,if_neg (by omega),if_pos hn]
 exact ⟨by rw [Hc,e2,if_neg hn],e2.symm⟩
theorem Aoh {v:Vo} (h:He v.evs.length 0 v.evs=0) (h2:¬C7 v.tups (wrS v.evs)≠0) (hn:E9 v.tups (wrS v.evs)≠0): []=Hc v∧21=Fo v:=by
 have e2:Fo v=21:=by rw [Fo,if_neg (by omega),if_neg h2,if_pos hn]
 exact ⟨by rw [Hc,e2,if_neg (by decide)],e2.symm⟩
theorem Aog {v:Vo} (h:He v.evs.length 0 v.evs=0) (h2:¬C7 v.tups (wrS v.evs)≠0) (h3:¬E9 v.tups (wrS v.evs)≠0):Hu v.tups (wrS v.evs)=Hc v∧0=Fo v:=by
 have e2:Fo v=0:=by rw [Fo,if_neg (by omega),if_neg h2,if_neg h3]
 exact ⟨by rw [Hc,e2,if_pos rfl],e2.symm⟩
theorem Zz (v:Vo) (hE:Evs v.evs) (hlen:v.evs.length≤128):XC Tryz.prog 145 [.agg (Vo.c v)] (fun r=>r= .tup [.sl 1 (Ci (Hc v)),dI (Fo v)]):=by
 refine Am Ab6 Tryz.func145 R R lb<|zr<|XL.step R (An 1 (l:= [.d (.sl 13 (v.evs.map Ev.c)), .d (.sl 4 (v.tups.map Tp.c))]) R R (by kernel_rfl))<|za R R<|za R R<|zn<|zs<|zr<|zp (Aa R R Bk)<|zp (Ab R R Cz R R)<|XL.len R R R Tryz.underlying79 fun hl14=>zm R R<|zn<|Ah<|?_
 refine A0 (α:=Nat) (fun k=>k≤v.evs.length∧He v.evs.length k (v.evs.drop k)=He v.evs.length 0 v.evs) (fun k=>mkF [(1, .ptr 1 0 0),(13, .d (.sl 13 (v.evs.map Ev.c))),(14, .d (dI v.evs.length)),(15, .d (dI k))]) (fun k=>mkH [(1, .box ((Vo.c v).map S.d))]) (fun k=>v.evs.length - k) (0) (⟨Nat.zero_le _,by rw [List.drop_zero]⟩) ?_ ?_ ?_
 exact fz ⟨sr,sr,sr,sr,trivial⟩
 exact gz ⟨R,trivial⟩
 intro k hk0
 obtain ⟨hk,hgo⟩:=hk0
 refine zr<|zp (As R R R)<|zn<|zs<|?_
 refine zd R (fun c16=> ?_) (fun c16=> ?_)
 have hk0a:k<v.evs.length:=by omega
 obtain ⟨x0,hx0⟩:=Aw hk0a
 have he:=hE x0 (List.mem_of_getElem? hx0)
 refine zi<|zs<|Ah<|zr<|zm R R<|zp (Ap R R R G7 hx0)<|zp (Ae (s':= .d (.agg (Ev.c x0))) (A4 R R Bq lb) (by kernel_rfl))<|XL.step R (Ao 5 (l:= [.d (dI 0), .d (dI 0), .d (dI 0), .d (dI 0), .d (dI 0), .d (.v (.slice none 0 0)), .d (.v (.slice none 0 0)), .d (dI 0), .d (dI 0), .d (dI 0), .d (.v (.slice none 0 0)), .d (dI 0), .d (dI 0)]) R Ca (by kernel_rfl))<|?_
 refine za R R<|XL.step R (Af (l':= [.d (dI x0.site), .d (dI x0.num), .d (dI x0.kind), .d (dI x0.v.log), .d (dI x0.v.dots), .d (.sl 5 (x0.heads.map Hd.c)), .d (.sl 5 (x0.graces.map Gr.c)), .d (dI x0.art), .d (dI x0.orn), .d (dI x0.dyn), .d (.sl 2 (x0.lyr.map Sy.c)), .d (dI x0.stem), .d (dI x0.beam)]) R R R R Cy R lb (by kernel_rfl))<|zn<|zs<|zr<|?_
 refine zp (Ae (s':= .d (.agg (Ev.c x0))) (Ac (Ad R R Bq R lb)) (by kernel_rfl))<|XL.call1 R R (Rb _ (by assumption)) R<|za R R<|znr<|zm R R<|zp (Az R R R)<|zn<|?_
 refine zd R (fun c23=> ?_) (fun c23=> ?_)
 refine zr<|zm R R<|za R R<|za R R<|zn<|zt<|?_
 exact Ax R (RV.nil (sz:=1) R R) (RV.tmp R R) (r2 (rSl (R2 (by rw [←hgo,Z0 hx0 c23]) c23).1) (rI (R2 (by rw [←hgo,Z0 hx0 c23]) c23).2))
 refine zi<|zr<|zp (Aa R R Df)<|zp (Ab R R Ai R R)<|zp (A7 R R R)<|zm R R<|?_
 refine XL.dec 28 R (fun g28=> ?_) (fun g28=> ?_)
 refine zm R R<|zp (Bb R R R)<|zm R R<|?_
 refine XL.dec 31 R (fun g31=> ?_) (fun g31=> ?_)
 refine zk 4 R<|zq R R R<|zq R R R<|zn<|Ay (by kernel_rfl) R<|zr<|za R R<|za R R<|zn<|zt<|?_
 exact Ax R (RV.nil (sz:=1) R R) (RV.tmp R R) (r2 (rSl (R2 (e:=11) (by rw [←hgo,Oh hx0 c23 (by omega)]) (by decide)).1) (rI (R2 (by rw [←hgo,Oh hx0 c23 (by omega)]) (by decide)).2))
 refine zp (Aa R R Bk)<|zp (Ab R R Cz R R)<|XL.len R R R Tryz.underlying79 fun hl34=>zp (Bb R R R)<|zq R R R<|zq R R R<|zn<|?_
 refine zd R (fun c37=> ?_) (fun c37=> ?_)
 refine zr<|za R R<|za R R<|zn<|zt<|?_
 exact Ax R (RV.nil (sz:=1) R R) (RV.tmp R R) (r2 (rSl (R2 (e:=11) (by rw [←hgo,Oh hx0 c23 (by omega)]) (by decide)).1) (rI (R2 (by rw [←hgo,Oh hx0 c23 (by omega)]) (by decide)).2))
 refine zi<|Ag (by kernel_rfl)<|zp (Ak R R R (by omega) (by omega))<|zm R R<|zn<|?_
 exact Al (k+1) (⟨by omega,by rw [←Xc hx0 c23 (by omega)];exact hgo⟩) (by omega) (fz ⟨sr,sr,sr,sr,trivial⟩) (gz ⟨rfl,trivial⟩)
 refine zk 8 R<|zq R R R<|zn<|A9 (by kernel_rfl) R<|zi<|Ag (by kernel_rfl)<|zp (Ak R R R (by omega) (by omega))<|zm R R<|zn<|?_
 exact Al (k+1) (⟨by omega,by rw [←Xc hx0 c23 (by omega)];exact hgo⟩) (by omega) (fz ⟨sr,sr,sr,sr,trivial⟩) (gz ⟨rfl,trivial⟩)
 have hk0b:k=v.evs.length:=by omega
 have hz:He v.evs.length 0 v.evs=0:=by rw [←hgo,hk0b,List.drop_length];rfl
 refine Au<|zr<|zp (Aa R R Bk)<|zp (Ab R R Cz R R)<|XL.call1 R R (Ac2 _ (by assumption) (by omega)) R<|za R R<|znr<|zp (Aa R R B3)<|zp (Ab R R B5 R R)<|zm R R<|XL.call1 R R (Sa _ _) R<|zm R R<|zp (Ar R R R)<|zp (Ar R R R)<|?_
 refine za R R<|za R R<|zn<|zs<|zr<|zm R R<|zp (Az R R R)<|zn<|?_
 refine zd R (fun c50=> ?_) (fun c50=> ?_)
 refine zr<|zm R R<|za R R<|za R R<|zn<|zt<|?_
 exact Ax R (RV.nil (sz:=1) R R) (RV.tmp R R) (r2 (rSl (Aoi hz c50).1) (rI (Aoi hz c50).2))
 refine zi<|zs<|zr<|zp (Aa R R B3)<|zp (Ab R R B5 R R)<|zm R R<|XL.call1 R R (Ale _ _) R<|zm R R<|zp (Ar R R R)<|zp (Ar R R R)<|za R R<|za R R<|znr<|zm R R<|?_
 refine zp (Az R R R)<|zn<|?_
 refine zd R (fun c60=> ?_) (fun c60=> ?_)
 refine zr<|za R R<|za R R<|zn<|zt<|?_
 exact Ax R (RV.nil (sz:=1) R R) (RV.tmp R R) (r2 (rSl (Aoh hz c50 c60).1) (rI (Aoh hz c50 c60).2))
 refine zi<|zr<|zm R R<|za R R<|za R R<|zn<|zt<|?_
 exact Ax R (RV.tmp R R) (RV.tmp R R) (r2 (rSl (Aog hz c50 c60).1) (rI (Aog hz c50 c60).2))
def Dr (v:Vo) (L:Int):Int:=
 if L<1∨15482880<L then 2 else if 128<v.evs.length then 9 else
 if v.whole∧v.evs.length=1 then (match v.evs with| []=>0|e::_=>if e.err≠0 then e.err else if 0<v.tups.length then 21 else 0) else Fo v
def Ew (v:Vo) (L:Int):List Int:=if Dr v L≠0 then [] else if v.whole∧v.evs.length=1 then [L] else Hc v
def ckE (v:Vo) (L:Int):Int:=if Dr v L=0∧0<(Ew v L).length∧tot (Ew v L)≠L then 20 else Dr v L
def ckL (v:Vo) (L:Int):List Int:=if ckE v L≠0 then [] else Ew v L
theorem X7 {v:Vo} {L:Int} (h:L<1∨15482880<L): []=Ew v L∧2=Dr v L:=by
 have e:Dr v L=2:=by rw [Dr,if_pos h]
 exact ⟨by rw [Ew,e,if_pos (by decide)],e.symm⟩
theorem Aoe {v:Vo} {L:Int} (h:¬L<1) (h':¬15482880<L) (h2:128<(v.evs.length:Int)): []=Ew v L∧9=Dr v L:=by
 have e:Dr v L=9:=by rw [Dr,if_neg (by omega),if_pos (by omega)]
 exact ⟨by rw [Ew,e,if_pos (by decide)],e.symm⟩
theorem Ag9 {v:Vo} {L:Int} (h:¬L<1) (h':¬15482880<L) (h2:¬128<(v.evs.length:Int)) (hw:v.whole) (h1:(v.evs.length:Int)=1) {e:Ev} (he:v.evs[0]? =some e):
  Dr v L=(if e.err≠0 then e.err else if 0<v.tups.length then 21 else 0):=by
 rw [Dr,if_neg (by omega),if_neg (by omega),if_pos ⟨hw,by omega⟩]
 cases hv:v.evs with
 |nil=>rw [hv] at he;cases he
 |cons x l=>rw [hv] at he;cases he;rfl
theorem X6 {v:Vo} {L:Int} (h:¬L<1) (h':¬15482880<L) (h2:¬128<(v.evs.length:Int)) (hw:¬(v.whole∧(v.evs.length:Int)=1)):Hc v=Ew v L∧Fo v=Dr v L:=by
 have hw':¬(v.whole∧v.evs.length=1):=fun k=>hw ⟨k.1,by omega⟩
 have e:Dr v L=Fo v:=by rw [Dr,if_neg (by omega),if_neg (by omega),if_neg hw']
 refine ⟨?_,e.symm⟩
 rw [Ew,e,if_neg hw']
 split
 ·rename_i hn;rw [Hc,if_neg hn]
 ·rfl
theorem Uw {v:Vo} {L a:Int} (h:Dr v L=a) (ha:a≠0): []=Ew v L∧a=Dr v L:=⟨by rw [Ew,h,if_pos ha],h.symm⟩
theorem Ajs {v:Vo} {L:Int} (h:Dr v L=0) (hw:v.whole) (h1:(v.evs.length:Int)=1): [L]=Ew v L∧0=Dr v L:=⟨by rw [Ew,h,if_neg (by decide),if_pos ⟨hw,by omega⟩],h.symm⟩
theorem Ag8 (v:Vo) (L:Int) (hE:Evs v.evs):XC Tryz.prog 115 [.agg (Vo.c v), .v (.int .i64 L)] (fun r=>r= .tup [.sl 1 (Ci (Ew v L)),dI (Dr v L)]):=by
 refine Am Ack Tryz.func115 R R lb<|zr<|XL.step R (An 2 (l:= [.d (.sl 13 (v.evs.map Ev.c)), .d (.sl 4 (v.tups.map Tp.c))]) R R (by kernel_rfl))<|za R R<|za R R<|zn<|zs<|Ah<|zr<|zm R R<|zp (As R R R)<|zm R R<|?_
 refine XL.dec 10 R (fun g10=> ?_) (fun g10=> ?_)
 refine zk 2 R<|zq R R R<|za R R<|zn<|Ay (by kernel_rfl) R<|zr<|za R R<|za R R<|zn<|zt<|?_
 exact Ax R (RV.nil (sz:=1) R R) (RV.tmp R R) (r2 (rSl (X7 (v:=v) (by omega)).1) (rI (X7 (v:=v) (by omega)).2))
 refine zm R R<|zp (Bb R R R)<|zq R R R<|za R R<|zn<|?_
 refine zd R (fun c7=> ?_) (fun c7=> ?_)
 refine zr<|za R R<|za R R<|zn<|zt<|?_
 exact Ax R (RV.nil (sz:=1) R R) (RV.tmp R R) (r2 (rSl (X7 (v:=v) (by omega)).1) (rI (X7 (v:=v) (by omega)).2))
 refine zr<|zp (Aa R R Bk)<|zp (Ab R R Cz R R)<|XL.len R R R Tryz.underlying79 fun hl17=>zp (Bb R R R)<|za R R<|zn<|?_
 refine zd R (fun c14=> ?_) (fun c14=> ?_)
 refine zr<|za R R<|za R R<|zn<|zt<|?_
 exact Ax R (RV.nil (sz:=1) R R) (RV.tmp R R) (r2 (rSl (Aoe g10 c7 c14).1) (rI (Aoe g10 c7 c14).2))
 refine zi<|zs<|zr<|zp (Ae (s':= .d (.agg (Vo.c v))) (Ac (Ad R R Aq R lb)) (by kernel_rfl))<|XL.call1 R R (Alc _) R<|zm R R<|?_
 refine XL.dec 21 R (fun g21=> ?_) (fun g21=> ?_)
 refine zp (Aa R R Bk)<|zp (Ab R R Cz R R)<|XL.len R R R Tryz.underlying79 fun hl24=>zp (A7 R R R)<|zq R R R<|zn<|?_
 refine zd R (fun c26=> ?_) (fun c26=> ?_)
 refine zs<|zs<|?_
 obtain ⟨e,hxe⟩:∃e,v.evs[0]? =some e:=Aw (by omega)
 have he:=hE e (List.mem_of_getElem? hxe)
 have hle:=Ag9 (L:=L) g10 c7 c14 g21 c26 hxe
 refine Ag (by kernel_rfl)<|zp (Aa R R Bk)<|zp (Ab R R Cz R R)<|zp (Ap (k:=0) R R R G7 (hxe))<|zp (Ae (s':= .d (.agg (Ev.c e))) (A4 R R Bq lb) (by kernel_rfl))<|XL.call1 R R (Rb _ (by assumption)) R<|za R R<|znr<|zm R R<|zp (Az R R R)<|zn<|?_
 refine zd R (fun c33=> ?_) (fun c33=> ?_)
 refine zr<|zm R R<|za R R<|za R R<|zn<|zt<|?_
 exact Ax R (RV.nil (sz:=1) R R) (RV.tmp R R) (r2 (rSl (Uw (by rw [hle,if_pos c33]) c33).1) (rI (Uw (by rw [hle,if_pos c33]) c33).2))
 refine zi<|zs<|zr<|zp (Aa R R B3)<|zp (Ab R R B5 R R)<|XL.len R R R Tryz.underlying80 fun hl37=>zp (Bb R R R)<|zn<|?_
 refine zd R (fun c38=> ?_) (fun c38=> ?_)
 refine zr<|za R R<|za R R<|zn<|zt<|?_
 exact Ax R (RV.nil (sz:=1) R R) (RV.tmp R R) (r2 (rSl (Uw (a:=21) (by rw [hle,if_neg c33,if_pos (by omega)]) (by decide)).1) (rI (Uw (a:=21) (by rw [hle,if_neg c33,if_pos (by omega)]) (by decide)).2))
 refine zi<|zr<|zm R R<|XL.step R (Bj 40 R Tryz.underlying45 Er H7 R R (by omega) (by omega))<|zp (Av R (by conv=>lhs;whnf))<|?_
 refine za R R<|zn<|zt<|Cg (i:=40) R<|?_
 exact Ax R (RV.tmp R R) (RV.tmp R R) (r2 (rSl (l:= [L]) (g:=iv) (Ajs (by rw [hle,if_neg c33,if_neg (by omega)]) g21 c26).1) (rI (Ajs (by rw [hle,if_neg c33,if_neg (by omega)]) g21 c26).2))
 refine zi<|zr<|zp (Ae (s':= .d (.agg (Vo.c v))) (Ac (Ad R R Aq R lb)) (by kernel_rfl))<|XL.call1 R R (Zz _ (by assumption) (by omega)) R<|zp (Ar R R R)<|zp (Ar R R R)<|za R R<|za R R<|zn<|zt<|?_
 exact Ax R (RV.tmp R R) (RV.tmp R R) (r2 (rSl (X6 g10 c7 c14 (fun h=>c26 h.2)).1) (rI (X6 g10 c7 c14 (fun h=>c26 h.2)).2))
 refine zk 4 R<|zq R R R<|zn<|A9 (by kernel_rfl) R<|zi<|zr<|zp (Ae (s':= .d (.agg (Vo.c v))) (Ac (Ad R R Aq R lb)) (by kernel_rfl))<|XL.call1 R R (Zz _ (by assumption) (by omega)) R<|zp (Ar R R R)<|zp (Ar R R R)<|za R R<|za R R<|zn<|zt<|?_
 exact Ax R (RV.tmp R R) (RV.tmp R R) (r2 (rSl (X6 g10 c7 c14 (fun h=>g21 h.1)).1) (rI (X6 g10 c7 c14 (fun h=>g21 h.1)).2))
end Go.Proofs.YtaafemnkamfgnaaGreat
namespace Go.Proofs.YtaafemnkamfgnaaGreat
open Go.RowKit
theorem Apx {l:List Tp} {n:Int} (hT:Tups l n) (ws:List Int):∀i x,x∈C1 l i ws→0≤x∧x≤253671505920:=by
 induction ws with
 |nil=>intro i x h;cases h
 |cons w r ih=>
  intro i x h
  rw [C1] at h
  rcases List.mem_cons.1 h with e|e
  ·rw [e];exact Y4 hT.ok (hT.hits i)
  ·exact ih _ _ e
theorem Ag0 (l:List Tp) (ws:List Int):Nums (Hu l ws):=by
 unfold Hu
 split
 ·rename_i h
  have hT:=N0 (show ¬C7 l ws≠0 by omega)
  have hb:=hT.bd
  exact ⟨by rw [Ja];omega,Apx hT ws 0⟩
 ·exact ⟨by simp,fun x h=>by cases h⟩
theorem S3:Nums []:=⟨by simp,fun x h=>by cases h⟩
theorem Ajd (v:Vo):Nums (Hc v):=by
 unfold Hc
 split
 ·exact Ag0 _ _
 ·exact S3
theorem Wy (v:Vo) (L:Int):Nums (Ew v L):=by
 unfold Ew
 split
 ·exact S3
 ·rename_i h
  split
  ·refine ⟨by simp,fun x hx=> ?_⟩
   rw [List.mem_singleton.1 hx]
   unfold Dr at h
   split at h
   ·omega
   ·omega
  ·exact Ajd v
theorem J1 (v:Vo) (L:Int):Nums (ckL v L):=by
 unfold ckL
 split
 ·exact S3
 ·exact Wy v L
theorem As8 {v:Vo} {L:Int} (h0:Dr v L=0) (h1:0<((Ew v L).length:Int)) (h2:tot (Ew v L)≠L): []=ckL v L∧20=ckE v L:=by
 have e:ckE v L=20:=by rw [ckE,if_pos ⟨h0,by omega,h2⟩]
 exact ⟨by rw [ckL,e,if_pos (by decide)],e.symm⟩
theorem Aht {v:Vo} {L:Int} (h0:Dr v L=0) (h:¬(0<((Ew v L).length:Int)∧tot (Ew v L)≠L)):Ew v L=ckL v L∧0=ckE v L:=by
 have e:ckE v L=0:=by rw [ckE,if_neg (fun k=>h ⟨by omega,k.2.2⟩),h0]
 exact ⟨by rw [ckL,e,if_neg (by decide)],e.symm⟩
theorem As7 {v:Vo} {L:Int} (h:Dr v L≠0): []=ckL v L∧Dr v L=ckE v L:=by
 have e:ckE v L=Dr v L:=by rw [ckE,if_neg (fun k=>h k.1)]
 exact ⟨by rw [ckL,e,if_pos h],e.symm⟩
theorem Mo (v:Vo) (L:Int) (hE:Evs v.evs):XC Tryz.prog 95 [.agg (Vo.c v), .v (.int .i64 L)] (fun r=>r= .tup [.sl 1 (Ci (ckL v L)),dI (ckE v L)]):=by
 have hN:=Wy v L
 refine Am Adp Tryz.func95 R R lb<|zr<|XL.step R (An 2 (l:= [.d (.sl 13 (v.evs.map Ev.c)), .d (.sl 4 (v.tups.map Tp.c))]) R R (by kernel_rfl))<|za R R<|za R R<|znr<|zp (Ae (s':= .d (.agg (Vo.c v))) (Ac (Ad R R Aq R lb)) (by kernel_rfl))<|zm R R<|XL.call1 R R (Ag8 _ _ (by assumption)) R<|zm R R<|zp (Ar R R R)<|zp (Ar R R R)<|za R R<|za R R<|?_
 refine zn<|zs<|zr<|zm R R<|zp (A7 R R R)<|zm R R<|?_
 refine XL.dec 16 R (fun g16=> ?_) (fun g16=> ?_)
 refine zm R R<|XL.len R R R Tryz.underlying45 fun hl18=>zp (Bb R R R)<|zq R R R<|zm R R<|?_
 refine XL.dec 21 R (fun g21=> ?_) (fun g21=> ?_)
 refine zm R R<|XL.call1 R R (Alg _ (by assumption)) R<|zm R R<|zp (Az R R R)<|zq R R R<|zn<|?_
 refine zd R (fun c26=> ?_) (fun c26=> ?_)
 refine Ag (by kernel_rfl)<|za R R<|zn<|zs<|zr<|zm R R<|zp (Az R R R)<|zn<|?_
 refine zd R (fun c28=> ?_) (fun c28=> ?_)
 refine zr<|zm R R<|za R R<|za R R<|zn<|zt<|?_
 exact Ax R (RV.nil (sz:=1) R R) (RV.tmp R R) (r2 (rSl (As8 g16 g21 c26).1) (rI (As8 g16 g21 c26).2))
 refine zi<|zr<|zm R R<|za R R<|za R R<|zn<|zt<|?_
 exact Ax R (RV.tmp R R) (RV.tmp R R) (by exfalso;omega)
 refine zi<|zs<|zr<|zm R R<|zp (Az R R R)<|zn<|?_
 refine zd R (fun c28=> ?_) (fun c28=> ?_)
 refine zr<|zm R R<|za R R<|za R R<|zn<|zt<|?_
 exact Ax R (RV.nil (sz:=1) R R) (RV.tmp R R) (by exfalso;omega)
 refine zi<|zr<|zm R R<|za R R<|za R R<|zn<|zt<|?_
 exact Ax R (RV.tmp R R) (RV.tmp R R) (r2 (rSl (Aht g16 (fun h=>c26 h.2)).1) (rI (Aht g16 (fun h=>c26 h.2)).2))
 refine zk 4 R<|zq R R R<|zn<|A9 (by kernel_rfl) R<|zi<|zs<|zr<|zm R R<|zp (Az R R R)<|zn<|?_
 refine zd R (fun c28=> ?_) (fun c28=> ?_)
 refine zr<|zm R R<|za R R<|za R R<|zn<|zt<|?_
 exact Ax R (RV.nil (sz:=1) R R) (RV.tmp R R) (by exfalso;omega)
 refine zi<|zr<|zm R R<|za R R<|za R R<|zn<|zt<|?_
 exact Ax R (RV.tmp R R) (RV.tmp R R) (r2 (rSl (Aht g16 (fun h=>g21 h.1)).1) (rI (Aht g16 (fun h=>g21 h.1)).2))
 refine zk 3 R<|zq R R R<|zm R R<|zk 4 R<|zq R R R<|zn<|A9 (by kernel_rfl) R<|zi<|zs<|zr<|zm R R<|zp (Az R R R)<|zn<|?_
 refine zd R (fun c28=> ?_) (fun c28=> ?_)
 refine zr<|zm R R<|za R R<|za R R<|zn<|zt<|?_
 exact Ax R (RV.nil (sz:=1) R R) (RV.tmp R R) (r2 (rSl (As7 g16).1) (rI (As7 g16).2))
 refine zi<|zr<|zm R R<|za R R<|za R R<|zn<|zt<|?_
 exact Ax R (RV.tmp R R) (RV.tmp R R) (by exfalso;omega)
theorem H6 (v:Vo) (L:Int) (hE:Evs v.evs):XC Tryz.prog 71 [.agg (Vo.c v), .v (.int .i64 L)] (fun r=>r=dI (ckE v L)):=by
 refine Am Ad2 Tryz.func71 R R lb<|zr<|XL.step R (An 2 (l:= [.d (.sl 13 (v.evs.map Ev.c)), .d (.sl 4 (v.tups.map Tp.c))]) R R (by kernel_rfl))<|za R R<|znr<|zp (Ae (s':= .d (.agg (Vo.c v))) (Ac (Ad R R Aq R lb)) (by kernel_rfl))<|zm R R<|XL.call1 R R (Mo _ _ (by assumption)) R<|zm R R<|zp (Ar R R R)<|zp (Ar R R R)<|za R R<|za R R<|znr<|?_
 exact zm R R<|za R R<|zn<|zt<|z1 R R (R)
theorem Ar3 {v:Vo} {L:Int} (h:ckE v L≠0): []=Bc (ckL v L):=by rw [ckL,if_pos h];rfl
theorem Xv (v:Vo) (L:Int) (hE:Evs v.evs):XC Tryz.prog 57 [.agg (Vo.c v), .v (.int .i64 L)] (fun r=>r= .tup [.sl 1 (Ci (Bc (ckL v L))),dI (ckE v L)]):=by
 have hN:=J1 v L
 refine Am Aef Tryz.func57 R R lb<|zr<|XL.step R (An 2 (l:= [.d (.sl 13 (v.evs.map Ev.c)), .d (.sl 4 (v.tups.map Tp.c))]) R R (by kernel_rfl))<|za R R<|za R R<|znr<|zp (Ae (s':= .d (.agg (Vo.c v))) (Ac (Ad R R Aq R lb)) (by kernel_rfl))<|zm R R<|XL.call1 R R (Mo _ _ (by assumption)) R<|zm R R<|zp (Ar R R R)<|zp (Ar R R R)<|za R R<|za R R<|?_
 refine zn<|zs<|zr<|zm R R<|zp (Az R R R)<|zn<|?_
 refine zd R (fun c15=> ?_) (fun c15=> ?_)
 refine zr<|zm R R<|za R R<|za R R<|zn<|zt<|?_
 exact Ax R (RV.nil (sz:=1) R R) (RV.tmp R R) (r2 (rSl (Ar3 c15)) R)
 refine zi<|zr<|zm R R<|XL.call1 R R (Ww _ (by assumption)) R<|za R R<|za R R<|zn<|zt<|?_
 exact Ax R (RV.tmp R R) (RV.tmp R R) (r2 R (rI (by omega)))
def atS (l:List Int) (t:Int):Nat→Int × Int
 |0=>(0,0)
 |k+1=>match l[k]? with
  |some x=>if tot (l.take k)≤t∧0<x then (k,tot (l.take k)) else atS l t k
  |none=>atS l t k
theorem Acv {l:List Int} {t x:Int} {k:Nat} (h:l[k]? =some x) (h1:tot (l.take k)≤t) (h2:0<x):atS l t (k+1)=((k:Int),tot (l.take k)):=by simp only [atS,h];rw [if_pos ⟨h1,h2⟩]
theorem O7 {l:List Int} {t x:Int} {k:Nat} (h:l[k]? =some x) (h1:¬(tot (l.take k)≤t∧0<x)):atS l t (k+1)=atS l t k:=by simp only [atS,h];rw [if_neg h1]
def atE (v:Vo) (L t:Int):Int:=if ckE v L≠0 then ckE v L else if (ckL v L).length=0 then 10 else if t<0∨L≤t then 2 else 0
def atV (v:Vo) (L t:Int):Int × Int:=if atE v L t≠0 then (0,0) else atS (ckL v L) t (ckL v L).length
theorem Is {l:List Int} {k:Nat} {x:Int} (h:(Bc l)[k]? =some x):x=tot (l.take k):=by
 have hk:=(List.getElem?_eq_some_iff.1 h).1
 rw [Bc,List.length_map,List.length_range] at hk
 rw [Bc,List.getElem?_map,List.getElem?_range hk] at h
 cases h;rfl
theorem K7 (l:List Int):(Bc l).length=l.length:=by rw [Bc,List.length_map,List.length_range]
theorem Md {v:Vo} {L t a:Int} (h:atE v L t=a) (ha:a≠0):0=(atV v L t).1∧0=(atV v L t).2∧a=atE v L t:=by
 have e:atV v L t=(0,0):=by rw [atV,h,if_pos ha]
 rw [e];exact ⟨rfl,rfl,h.symm⟩
theorem Ahx {v:Vo} {L t:Int} (h:ckE v L≠0):atE v L t=ckE v L:=by rw [atE,if_pos h]
theorem Ahw {v:Vo} {L t:Int} (h:¬ckE v L≠0) (h2:((ckL v L).length:Int)=0):atE v L t=10:=by rw [atE,if_neg h,if_pos (by omega)]
theorem V9 {v:Vo} {L t:Int} (h:¬ckE v L≠0) (h2:¬((ckL v L).length:Int)=0) (h3:t<0∨L≤t):atE v L t=2:=by rw [atE,if_neg h,if_neg (by omega),if_pos h3]
theorem Anx {v:Vo} {L t:Int} (h:¬ckE v L≠0) (h2:¬((ckL v L).length:Int)=0) (h3:¬(t<0∨L≤t)):atS (ckL v L) t (ckL v L).length=atV v L t∧0=atE v L t:=by
 have e:atE v L t=0:=by rw [atE,if_neg h,if_neg (by omega),if_neg h3]
 exact ⟨by rw [atV,e,if_neg (by decide)],e.symm⟩
theorem Auf (v:Vo) (L t:Int) (hE:Evs v.evs):XC Tryz.prog 61 [.agg (Vo.c v), .v (.int .i64 L), .v (.int .i64 t)] (fun r=>r= .tup [dI (atV v L t).1,dI (atV v L t).2,dI (atE v L t)]):=by
 have hN:=J1 v L
 have hol:=K7 (ckL v L)
 refine Am Aec Tryz.func61 R R lb<|zr<|XL.step R (An 3 (l:= [.d (.sl 13 (v.evs.map Ev.c)), .d (.sl 4 (v.tups.map Tp.c))]) R R (by kernel_rfl))<|za R R<|za R R<|za R R<|znr<|zp (Ae (s':= .d (.agg (Vo.c v))) (Ac (Ad R R Aq R lb)) (by kernel_rfl))<|zm R R<|XL.call1 R R (Mo _ _ (by assumption)) R<|zm R R<|zp (Ar R R R)<|zp (Ar R R R)<|za R R<|?_
 refine za R R<|zn<|zs<|Ah<|zr<|zm R R<|zp (Az R R R)<|za R R<|zn<|?_
 refine zd R (fun c18=> ?_) (fun c18=> ?_)
 refine zr<|zm R R<|za R R<|za R R<|za R R<|zn<|zt<|?_
 exact Vi R (RV.tmp R R) (RV.tmp R R) (RV.tmp R R) (r3 (rI (Md (t:=t) (Ahx c18) c18).1) (rI (Md (t:=t) (Ahx c18) c18).2.1) (rI (Md (t:=t) (Ahx c18) c18).2.2))
 refine zr<|zm R R<|XL.len R R R Tryz.underlying45 fun hl24=>zp (A7 R R R)<|za R R<|zn<|?_
 refine zd R (fun c22=> ?_) (fun c22=> ?_)
 refine zr<|za R R<|za R R<|za R R<|zn<|zt<|?_
 exact Vi R (RV.tmp R R) (RV.tmp R R) (RV.tmp R R) (r3 (rI (Md (t:=t) (Ahw c18 c22) (by decide)).1) (rI (Md (t:=t) (Ahw c18 c22) (by decide)).2.1) (rI (Md (t:=t) (Ahw c18 c22) (by decide)).2.2))
 refine zr<|zm R R<|zp (As R R R)<|zm R R<|?_
 refine XL.dec 29 R (fun g29=> ?_) (fun g29=> ?_)
 refine zk 3 R<|zq R R R<|za R R<|zn<|Ay (by kernel_rfl) R<|zr<|za R R<|za R R<|za R R<|zn<|zt<|?_
 exact Vi R (RV.tmp R R) (RV.tmp R R) (RV.tmp R R) (r3 (rI (Md (V9 c18 c22 (by omega)) (by decide)).1) (rI (Md (V9 c18 c22 (by omega)) (by decide)).2.1) (rI (Md (V9 c18 c22 (by omega)) (by decide)).2.2))
 refine zm R R<|zm R R<|zp (Gq R R R)<|zq R R R<|za R R<|zn<|?_
 refine zd R (fun c26=> ?_) (fun c26=> ?_)
 refine zr<|za R R<|za R R<|za R R<|zn<|zt<|?_
 exact Vi R (RV.tmp R R) (RV.tmp R R) (RV.tmp R R) (r3 (rI (Md (V9 c18 c22 (by omega)) (by decide)).1) (rI (Md (V9 c18 c22 (by omega)) (by decide)).2.1) (rI (Md (V9 c18 c22 (by omega)) (by decide)).2.2))
 refine zi<|zs<|zr<|zm R R<|XL.call1 R R (Ww _ (by assumption)) R<|XL.len R R R Tryz.underlying45 fun hl36=>zm R R<|zn<|Ah<|?_
 refine A0 (α:=Nat) (fun k=>k≤(Bc (ckL v L)).length) (fun k=>mkF [(2, .d (dI t)),(6, .d (dI (atS (ckL v L) t k).1)),(7, .d (dI (atS (ckL v L) t k).2)),(8, .d (dI (ckE v L))),(9, .d (.sl 1 (Ci (ckL v L)))),(35, .d (.sl 1 (Ci (Bc (ckL v L))))),(36, .d (dI (Bc (ckL v L)).length)),(37, .d (dI k))]) (fun k=>mkH []) (fun k=>(Bc (ckL v L)).length - k) (0) (Nat.zero_le _) ?_ ?_ ?_
 exact fz ⟨sr,sr,sr,sr,sr,sr,sr,sr,trivial⟩
 exact HSub.nil
 intro k hk1
 refine zr<|zp (As R R R)<|zn<|zs<|?_
 refine zd R (fun c38=> ?_) (fun c38=> ?_)
 have hk1a:k<(Bc (ckL v L)).length:=by omega
 obtain ⟨x1,hx1⟩:=Aw hk1a
 have hxe:=Is hx1
 obtain ⟨y,hy⟩:∃y,(ckL v L)[k]? =some y:=Aw (by omega)
 refine zi<|zs<|Ah<|zr<|zm R R<|zp (Ap R R R Dt hx1)<|zp (Ba R R Ai)<|za R R<|za R R<|znr<|zm R R<|zm R R<|zp (Oa R R R)<|zm R R<|?_
 refine XL.dec 45 R (fun g45=> ?_) (fun g45=> ?_)
 refine zm R R<|zm R R<|zp (Ap R R R Dt (hy))<|zp (Ba R R Ai)<|zp (Bb R R R)<|zq R R R<|zn<|?_
 refine zd R (fun c51=> ?_) (fun c51=> ?_)
 refine Ag (by kernel_rfl)<|zm R R<|zm R R<|za R R<|za R R<|zn<|Ag (by kernel_rfl)<|zp (Ak R R R (by omega) (by omega))<|zm R R<|zn<|?_
 exact Al (k+1) (by omega) (by omega) (fz ⟨sr, .same (sI (by rw [Acv hy (by rw [←Is hx1];exact g45) c51])), .same (sI (by rw [Acv hy (by rw [←Is hx1];exact g45) c51];exact Is hx1)),sr,sr,sr,sr,sr,trivial⟩) (HSub.nil)
 refine zi<|Ag (by kernel_rfl)<|zp (Ak R R R (by omega) (by omega))<|zm R R<|zn<|?_
 exact Al (k+1) (by omega) (by omega) (fz ⟨sr, .same (sI (by rw [O7 hy (fun h=>c51 h.2)])), .same (sI (by rw [O7 hy (fun h=>c51 h.2)])),sr,sr,sr,sr,sr,trivial⟩) (HSub.nil)
 refine zk 5 R<|zq R R R<|zn<|A9 (by kernel_rfl) R<|zi<|Ag (by kernel_rfl)<|zp (Ak R R R (by omega) (by omega))<|zm R R<|zn<|?_
 exact Al (k+1) (by omega) (by omega) (fz ⟨sr, .same (sI (by rw [O7 hy (fun h=>g45 (by rw [Is hx1];exact h.1))])), .same (sI (by rw [O7 hy (fun h=>g45 (by rw [Is hx1];exact h.1))])),sr,sr,sr,sr,sr,trivial⟩) (HSub.nil)
 have hk1b:k=(Bc (ckL v L)).length:=by omega
 have hke:k=(ckL v L).length:=by omega
 refine Au<|zr<|zm R R<|zm R R<|za R R<|za R R<|za R R<|zn<|zt<|?_
 exact Vi R (RV.tmp R R) (RV.tmp R R) (RV.tmp R R) (r3 (rI (by rw [hke,(Anx c18 c22 (by omega)).1])) (rI (by rw [hke,(Anx c18 c22 (by omega)).1])) (rI (Anx c18 c22 (by omega)).2))
end Go.Proofs.YtaafemnkamfgnaaGreat
namespace Go.Proofs.YtaafemnkamfgnaaGreat
open Go.RowKit
set_option maxRecDepth 4000
set_option maxHeartbeats 4000000 in
theorem V5 (d:Nat) (w:World) (a0 a1 a2 a3 a4 a5 b0 b1 b2 b3 b4 b5:Int):(Op.equalIn (d+2) 24 (.agg #[.int .i64 a0, .int .i64 a1, .int .i64 a2, .int .i64 a3, .int .i64 a4, .int .i64 a5]) (.agg #[.int .i64 b0, .int .i64 b1, .int .i64 b2, .int .i64 b3, .int .i64 b4, .int .i64 b5])).run Tryz.prog w=
  .ok (decide (a0=b0∧a1=b1∧a2=b2∧a3=b3∧a4=b4∧a5=b5)) w:=by
 rw [show d+2=(d+1)+1 from rfl]
 have hp:∀(cs:Array Value) (k:Nat) (v:Value),cs[k]? =some v→(part 3 cs k).run Tryz.prog w= .ok v w:=fun cs k v h=>Bg Ai w h
 have he:∀a b:Int,(Op.equalIn (d+1) 3 (.int .i64 a) (.int .i64 b)).run Tryz.prog w= .ok (decide (a=b)) w:=fun a b=>Cm d 3 Tryz.underlying3 a b
 have ha0:=hp (#[.int .i64 a0, .int .i64 a1, .int .i64 a2, .int .i64 a3, .int .i64 a4, .int .i64 a5]) ((0)*1) (.int .i64 a0) rfl
 have hb0:=hp (#[.int .i64 b0, .int .i64 b1, .int .i64 b2, .int .i64 b3, .int .i64 b4, .int .i64 b5]) ((0)*1) (.int .i64 b0) rfl
 have ha1:=hp (#[.int .i64 a0, .int .i64 a1, .int .i64 a2, .int .i64 a3, .int .i64 a4, .int .i64 a5]) ((0+1)*1) (.int .i64 a1) rfl
 have hb1:=hp (#[.int .i64 b0, .int .i64 b1, .int .i64 b2, .int .i64 b3, .int .i64 b4, .int .i64 b5]) ((0+1)*1) (.int .i64 b1) rfl
 have ha2:=hp (#[.int .i64 a0, .int .i64 a1, .int .i64 a2, .int .i64 a3, .int .i64 a4, .int .i64 a5]) ((0+1+1)*1) (.int .i64 a2) rfl
 have hb2:=hp (#[.int .i64 b0, .int .i64 b1, .int .i64 b2, .int .i64 b3, .int .i64 b4, .int .i64 b5]) ((0+1+1)*1) (.int .i64 b2) rfl
 have ha3:=hp (#[.int .i64 a0, .int .i64 a1, .int .i64 a2, .int .i64 a3, .int .i64 a4, .int .i64 a5]) ((0+1+1+1)*1) (.int .i64 a3) rfl
 have hb3:=hp (#[.int .i64 b0, .int .i64 b1, .int .i64 b2, .int .i64 b3, .int .i64 b4, .int .i64 b5]) ((0+1+1+1)*1) (.int .i64 b3) rfl
 have ha4:=hp (#[.int .i64 a0, .int .i64 a1, .int .i64 a2, .int .i64 a3, .int .i64 a4, .int .i64 a5]) ((0+1+1+1+1)*1) (.int .i64 a4) rfl
 have hb4:=hp (#[.int .i64 b0, .int .i64 b1, .int .i64 b2, .int .i64 b3, .int .i64 b4, .int .i64 b5]) ((0+1+1+1+1)*1) (.int .i64 b4) rfl
 have ha5:=hp (#[.int .i64 a0, .int .i64 a1, .int .i64 a2, .int .i64 a3, .int .i64 a4, .int .i64 a5]) ((0+1+1+1+1+1)*1) (.int .i64 a5) rfl
 have hb5:=hp (#[.int .i64 b0, .int .i64 b1, .int .i64 b2, .int .i64 b3, .int .i64 b4, .int .i64 b5]) ((0+1+1+1+1+1)*1) (.int .i64 b5) rfl
 clear hp
 generalize hd:d+1=d1 at*
 generalize hA:(#[.int .i64 a0, .int .i64 a1, .int .i64 a2, .int .i64 a3, .int .i64 a4, .int .i64 a5]:Array Value)=A at*
 generalize hB:(#[.int .i64 b0, .int .i64 b1, .int .i64 b2, .int .i64 b3, .int .i64 b4, .int .i64 b5]:Array Value)=B at*
 unfold Op.equalIn
 simp only [Sem.run_bind,run_underlying Tryz.underlying24,Result.andThen_ok,sizeB.run Er]
 simp only [Std.Legacy.Range.forIn_eq_forIn_range',Std.Legacy.Range.size,List.range',List.forIn_cons,List.forIn_nil]
 by_cases e0:a0=b0
 rotate_left
 ·simp_all
 by_cases e1:a1=b1
 rotate_left
 ·simp_all
 by_cases e2:a2=b2
 rotate_left
 ·simp_all
 by_cases e3:a3=b3
 rotate_left
 ·simp_all
 by_cases e4:a4=b4
 rotate_left
 ·simp_all
 by_cases e5:a5=b5
 rotate_left
 ·simp_all
 ·simp_all
theorem Al9 {t':TypeId} {o:Oper} {e:Operand→S} {h:Xh} {x y:Operand} {a0:Int} {a1:Int} {a2:Int} {a3:Int} {a4:Int} {a5:Int} {b0:Int} {b1:Int} {b2:Int} {b3:Int} {b4:Int} {b5:Int} (ho:o.op= .binOp .eql 24 x y t') (hx:e x= .d (.agg [.v (.int .i64 a0), .v (.int .i64 a1), .v (.int .i64 a2), .v (.int .i64 a3), .v (.int .i64 a4), .v (.int .i64 a5)])) (hy:e y= .d (.agg [.v (.int .i64 b0), .v (.int .i64 b1), .v (.int .i64 b2), .v (.int .i64 b3), .v (.int .i64 b4), .v (.int .i64 b5)])):Be Tryz.prog o e h (.d (.v (.bool (decide (a0=b0∧a1=b1∧a2=b2∧a3=b3∧a4=b4∧a5=b5))))):=by
 refine Fg ho hx hy rfl rfl (by kernel_rfl) fun w=> ?_
 refine (run_eql_struct w 24 #[.int .i64 a0, .int .i64 a1, .int .i64 a2, .int .i64 a3, .int .i64 a4, .int .i64 a5] #[.int .i64 b0, .int .i64 b1, .int .i64 b2, .int .i64 b3, .int .i64 b4, .int .i64 b5]).trans ?_
 have hq:=V5 9998 w a0 a1 a2 a3 a4 a5 b0 b1 b2 b3 b4 b5
 simp only [Nat.reduceAdd] at hq
 rw [hq]
 simp only [Result.andThen_ok]
theorem Al4 {t':TypeId} {o:Oper} {e:Operand→S} {h:Xh} {x y:Operand} {a0:Int} {a1:Int} {a2:Int} {a3:Int} {a4:Int} {a5:Int} {b0:Int} {b1:Int} {b2:Int} {b3:Int} {b4:Int} {b5:Int} (ho:o.op= .binOp .neq 24 x y t') (hx:e x= .d (.agg [.v (.int .i64 a0), .v (.int .i64 a1), .v (.int .i64 a2), .v (.int .i64 a3), .v (.int .i64 a4), .v (.int .i64 a5)])) (hy:e y= .d (.agg [.v (.int .i64 b0), .v (.int .i64 b1), .v (.int .i64 b2), .v (.int .i64 b3), .v (.int .i64 b4), .v (.int .i64 b5)])):Be Tryz.prog o e h (.d (.v (.bool (decide (¬(a0=b0∧a1=b1∧a2=b2∧a3=b3∧a4=b4∧a5=b5)))))):=by
 refine Fg ho hx hy rfl rfl (by kernel_rfl) fun w=> ?_
 refine (run_neq_struct w 24 #[.int .i64 a0, .int .i64 a1, .int .i64 a2, .int .i64 a3, .int .i64 a4, .int .i64 a5] #[.int .i64 b0, .int .i64 b1, .int .i64 b2, .int .i64 b3, .int .i64 b4, .int .i64 b5]).trans ?_
 have hq:=V5 9998 w a0 a1 a2 a3 a4 a5 b0 b1 b2 b3 b4 b5
 simp only [Nat.reduceAdd] at hq
 rw [hq]
 simp only [Result.andThen_ok,decide_not]
end Go.Proofs.YtaafemnkamfgnaaGreat
namespace Go.Proofs.YtaafemnkamfgnaaGreat
open Go.RowKit
theorem Asq {m:Me} {k:Nat} {g:Int} (h:m.gs[k]? =some g): [dI m.g0,dI m.g1,dI m.g2,dI m.g3,dI m.g4,dI m.g5][k]? =some (dI g):=by
 have:(m.gs.map dI)[k]? =some (dI g):=by rw [List.getElem?_map,h];rfl
 exact this
def Me.flat (m:Me):Prop:=m.g0=0∧m.g1=0∧m.g2=0∧m.g3=0∧m.g4=0∧m.g5=0
instance (m:Me):Decidable m.flat:=by unfold Me.flat;exact inferInstance
def gGo (k:Nat) (s n:Int):List Int→Option (Int × Int)
 | []=>some (s,n)
 |g::r=>if g<0∨64<g∨(0<g∧(k:Int)≠n) then none else if 0<g then gGo (k+1) (s+g) (n+1) r else gGo (k+1) s n r
def gOk (c:Int) (o:Option (Int × Int)):Prop:=match o with|some p=>p.1=c∧2≤p.2|none=>False
instance (c:Int) (o:Option (Int × Int)):Decidable (gOk c o):=by unfold gOk;cases o<;>exact inferInstance
def Me.grouped (m:Me):Prop:=m.flat∨gOk m.count (gGo 0 0 0 m.gs)
instance (m:Me):Decidable m.grouped:=by unfold Me.grouped;exact inferInstance
theorem S7 {m:Me} {k:Nat} {g s n:Int} (h:m.gs[k]? =some g) (hb:g<0∨64<g∨(0<g∧(k:Int)≠n)):gGo k s n (m.gs.drop k)=none:=by rw [B1 h,gGo,if_pos hb]
theorem Aqj {m:Me} {k:Nat} {g s n:Int} (h:m.gs[k]? =some g) (hb:¬(g<0∨64<g∨(0<g∧(k:Int)≠n))) (hg:0<g):gGo k s n (m.gs.drop k)=gGo (k+1) (s+g) (n+1) (m.gs.drop (k+1)):=by rw [B1 h,gGo,if_neg hb,if_pos hg]
theorem Ass {m:Me} {k:Nat} {g s n:Int} (h:m.gs[k]? =some g) (hb:¬(g<0∨64<g∨(0<g∧(k:Int)≠n))) (hg:¬0<g):gGo k s n (m.gs.drop k)=gGo (k+1) s n (m.gs.drop (k+1)):=by rw [B1 h,gGo,if_neg hb,if_neg hg]
theorem Aqh {m:Me} (h:m.grouped):true=decide m.grouped:=by rw [decide_eq_true h]
theorem Z2 {m:Me} (h1:¬m.flat) (h:gGo 0 0 0 m.gs=none):false=decide m.grouped:=by rw [decide_eq_false];exact fun k=>k.elim h1 (by rw [h];exact fun k=>k)
theorem Aj8 {m:Me} (h1:¬m.flat) {s n:Int} (h:gGo 0 0 0 m.gs=some (s,n)):m.grouped↔s=m.count∧2≤n:=by
 unfold Me.grouped
 rw [h]
 exact ⟨fun k=>k.elim (fun k=>absurd k h1) fun k=>k,fun k=> .inr k⟩
theorem Ahf (m:Me):XC Tryz.prog 92 [.agg (Me.c m)] (fun r=>r=dB (decide m.grouped)):=by
 refine Am Ads Tryz.func92 R R lb<|zr<|XL.step R (An 1 (l:= [.d (dI m.count), .d (dI m.unit), .d (dI m.g0), .d (dI m.g1), .d (dI m.g2), .d (dI m.g3), .d (dI m.g4), .d (dI m.g5)]) R R (by kernel_rfl))<|za R R<|zn<|zs<|zr<|zp (Aa R R Px)<|?_
 refine zp (Ae (s':= .d (.agg [dI m.g0,dI m.g1,dI m.g2,dI m.g3,dI m.g4,dI m.g5])) (Ac (Ad R R Rn R lb)) (by kernel_rfl))<|zp (Ae (s':= .d (.agg [dI 0,dI 0,dI 0,dI 0,dI 0,dI 0])) (Ac (Pp R Tryz.underlying24 Er Aex R)) (by kernel_rfl))<|zp (Al9 R R R)<|zn<|?_
 refine zd R (fun c10=> ?_) (fun c10=> ?_)
 exact zr<|za R R<|zn<|zt<|z1 R R (rB (Aqh (.inl c10)))
 refine zi<|zr<|za R R<|za R R<|zn<|zs<|zr<|zp (Aa R R Px)<|zp (Ae (s':= .d (.agg [dI m.g0,dI m.g1,dI m.g2,dI m.g3,dI m.g4,dI m.g5])) (Ac (Ad R R Rn R lb)) (by kernel_rfl))<|zm R R<|zn<|Ah<|?_
 refine A0 (α:=Nat × Int × Int) (fun p=>p.1≤6∧gGo p.1 p.2.1 p.2.2 (m.gs.drop p.1)=gGo 0 0 0 m.gs∧0≤p.2.1∧p.2.1≤64*p.1∧0≤p.2.2∧p.2.2≤p.1) (fun p=>mkF [(1, .ptr 1 0 0),(3, .d (dI p.2.1)),(4, .d (dI p.2.2)),(12, .d (.agg [dI m.g0,dI m.g1,dI m.g2,dI m.g3,dI m.g4,dI m.g5])),(13, .d (dI p.1))]) (fun p=>mkH [(1, .box ((Me.c m).map S.d))]) (fun p=>6 - p.1) ((0,0,0)) (⟨Nat.zero_le _,R,by simp,by simp,by simp,by simp⟩) ?_ ?_ ?_
 exact fz ⟨sr,sr,sr,sr,sr,trivial⟩
 exact gz ⟨R,trivial⟩
 intro p hk0
 obtain ⟨hk,hgo,hs0,hs1,hn0,hn1⟩:=hk0
 refine zr<|zp (As R R R)<|zn<|zs<|?_
 refine zd R (fun c14=> ?_) (fun c14=> ?_)
 obtain ⟨g,hg⟩:∃g,m.gs[p.1]? =some g:=Aw (by show p.1<6;omega)
 refine zi<|zs<|Ah<|zr<|zm R R<|zp (Wt (k:=p.1) R R R R Tryz.underlying24 Ai Er (by omega) (Asq hg))<|za R R<|za R R<|zn<|Ah<|zr<|zm R R<|zp (As R R R)<|zm R R<|?_
 refine XL.dec 20 R (fun g20=> ?_) (fun g20=> ?_)
 exact zk 2 R<|zq R R R<|zm R R<|zk 7 R<|zq R R R<|za R R<|zn<|Ay (by kernel_rfl) R<|zr<|za R R<|zn<|zt<|z1 R R (rB (Z2 c10 (by rw [←hgo];exact S7 hg (by omega))))
 refine zm R R<|zp (Bb R R R)<|zq R R R<|zm R R<|?_
 refine XL.dec 24 R (fun g24=> ?_) (fun g24=> ?_)
 exact zk 7 R<|zq R R R<|za R R<|zn<|Ay (by kernel_rfl) R<|zr<|za R R<|zn<|zt<|z1 R R (rB (Z2 c10 (by rw [←hgo];exact S7 hg (by omega))))
 refine zm R R<|zp (Bb R R R)<|zm R R<|?_
 refine XL.dec 27 R (fun g27=> ?_) (fun g27=> ?_)
 refine zm R R<|zm R R<|zp (Az R R R)<|zq R R R<|zq R R R<|za R R<|zn<|?_
 refine zd R (fun c17=> ?_) (fun c17=> ?_)
 exact zr<|za R R<|zn<|zt<|z1 R R (rB (Z2 c10 (by rw [←hgo];exact S7 hg (by omega))))
 refine zr<|zm R R<|zp (Bb R R R)<|za R R<|zn<|?_
 refine zd R (fun c33=> ?_) (fun c33=> ?_)
 refine Ag (by kernel_rfl)<|zm R R<|zm R R<|zp (Ak R R R (by omega) (by omega))<|zm R R<|zp (Ak R R R (by omega) (by omega))<|za R R<|za R R<|zn<|Ag (by kernel_rfl)<|zp (Ak R R R (by omega) (by omega))<|zm R R<|zn<|?_
 exact Al ((p.1+1,p.2.1+g,p.2.2+1)) (⟨by simp only;omega,by rw [←Aqj hg (by omega) c33];exact hgo,by simp only;omega,by simp only;omega,by simp only;omega,by simp only;omega⟩) (by simp only;omega) (fz ⟨sr,sr,sr,sr,sr,trivial⟩) (gz ⟨rfl,trivial⟩)
 refine zi<|Ag (by kernel_rfl)<|zp (Ak R R R (by omega) (by omega))<|zm R R<|zn<|?_
 exfalso;omega
 refine zk 3 R<|zq R R R<|zq R R R<|za R R<|zn<|A9 (by kernel_rfl) R<|zr<|zm R R<|zp (Bb R R R)<|za R R<|zn<|?_
 refine zd R (fun c33=> ?_) (fun c33=> ?_)
 refine Ag (by kernel_rfl)<|zm R R<|zm R R<|zp (Ak R R R (by omega) (by omega))<|zm R R<|zp (Ak R R R (by omega) (by omega))<|za R R<|za R R<|zn<|Ag (by kernel_rfl)<|zp (Ak R R R (by omega) (by omega))<|zm R R<|zn<|?_
 exfalso;omega
 refine zi<|Ag (by kernel_rfl)<|zp (Ak R R R (by omega) (by omega))<|zm R R<|zn<|?_
 exact Al ((p.1+1,p.2.1,p.2.2)) (⟨by simp only;omega,by rw [←Ass hg (by omega) c33];exact hgo,by simp only;omega,by simp only;omega,by simp only;omega,by simp only;omega⟩) (by simp only;omega) (fz ⟨sr,sr,sr,sr,sr,trivial⟩) (gz ⟨rfl,trivial⟩)
 have hke:p.1=6:=by omega
 have hend:gGo 0 0 0 m.gs=some (p.2.1,p.2.2):=by rw [←hgo,hke];rfl
 refine Au<|zr<|zm R R<|zp (Aa R R I1)<|zp (Ab R R Ai R R)<|zp (A7 R R R)<|zm R R<|?_
 refine XL.dec 46 R (fun g46=> ?_) (fun g46=> ?_)
 exact zm R R<|zp (Gq R R R)<|zq R R R<|za R R<|zn<|zt<|z1 R R (rB (by rw [decide_eq_decide,Aj8 c10 hend];exact ⟨fun h=>⟨g46,h⟩,fun h=>h.2⟩))
 exact zk 2 R<|zq R R R<|za R R<|zn<|zt<|z1 R R (rB (by rw [eq_comm,decide_eq_false_iff_not,Aj8 c10 hend];exact fun h=>g46 h.1))
def Me.pow (m:Me):Prop:=((m.unit.toNat &&& (m.unit - 1).toNat:Nat):Int)=0
instance (m:Me):Decidable m.pow:=by unfold Me.pow;exact inferInstance
def Me.err (m:Me):Int:=if m.count<1∨64<m.count then 2 else if m.unit<1∨64<m.unit∨¬m.pow then 17 else if ¬m.grouped then 19 else 0
theorem Asg {m:Me} (h:m.count<1∨64<m.count):2=m.err:=by rw [Me.err,if_pos h]
theorem Amh {m:Me} (h:¬(m.count<1∨64<m.count)) (h2:m.unit<1∨64<m.unit∨¬m.pow):17=m.err:=by rw [Me.err,if_neg h,if_pos h2]
theorem Auy {m:Me} (h:¬(m.count<1∨64<m.count)) (h2:¬(m.unit<1∨64<m.unit∨¬m.pow)) (h3:¬m.grouped):19=m.err:=by rw [Me.err,if_neg h,if_neg h2,if_pos h3]
theorem Aux {m:Me} (h:¬(m.count<1∨64<m.count)) (h2:¬(m.unit<1∨64<m.unit∨¬m.pow)) (h3:m.grouped):0=m.err:=by rw [Me.err,if_neg h,if_neg h2,if_neg (fun k=>k h3)]
theorem Afh {a b c:Prop} (h1:¬a) (h2:¬b) (h3:¬c):¬(a∨b∨c):=fun k=>k.elim h1 fun k=>k.elim h2 h3
theorem O4 {a b:Prop} (h1:¬a) (h2:¬b):¬(a∨b):=fun k=>k.elim h1 h2
theorem Oc (m:Me):XC Tryz.prog 53 [.agg (Me.c m)] (fun r=>r=dI m.err):=by
 refine Am Aei Tryz.func53 R R lb<|zr<|XL.step R (An 1 (l:= [.d (dI m.count), .d (dI m.unit), .d (dI m.g0), .d (dI m.g1), .d (dI m.g2), .d (dI m.g3), .d (dI m.g4), .d (dI m.g5)]) R R (by kernel_rfl))<|za R R<|zn<|zs<|Ah<|zr<|zp (Aa R R I1)<|zp (Ab R R Ai R R)<|zp (As R R R)<|zm R R<|?_
 refine XL.dec 7 R (fun g7=> ?_) (fun g7=> ?_)
 exact zk 3 R<|zq R R R<|za R R<|zn<|Ay (by kernel_rfl) R<|zr<|za R R<|zn<|zt<|z1 R R (rI (Asg (.inl g7)))
 refine zp (Aa R R I1)<|zp (Ab R R Ai R R)<|zp (Bb R R R)<|zq R R R<|za R R<|zn<|?_
 refine zd R (fun c3=> ?_) (fun c3=> ?_)
 exact zr<|za R R<|zn<|zt<|z1 R R (rI (Asg (.inr c3)))
 refine zr<|zp (Aa R R Ld)<|zp (Ab R R Ai R R)<|zp (As R R R)<|zm R R<|?_
 refine XL.dec 16 R (fun g16=> ?_) (fun g16=> ?_)
 exact zk 3 R<|zq R R R<|zm R R<|zk 7 R<|zq R R R<|za R R<|zn<|Ay (by kernel_rfl) R<|zr<|za R R<|zn<|zt<|z1 R R (rI (Amh (O4 g7 c3) (.inl g16)))
 refine zp (Aa R R Ld)<|zp (Ab R R Ai R R)<|zp (Bb R R R)<|zq R R R<|zm R R<|?_
 refine XL.dec 21 R (fun g21=> ?_) (fun g21=> ?_)
 exact zk 7 R<|zq R R R<|za R R<|zn<|Ay (by kernel_rfl) R<|zr<|za R R<|zn<|zt<|z1 R R (rI (Amh (O4 g7 c3) (.inr (.inl g21))))
 refine zp (Aa R R Ld)<|zp (Ab R R Ai R R)<|zp (Aa R R Ld)<|zp (Ab R R Ai R R)<|zp (Fk R R R (by omega) (by omega))<|zp (Aoc R R R (by omega) (by omega) (by omega) (by omega))<|zp (Az R R R)<|zq R R R<|za R R<|zn<|?_
 refine zd R (fun c12=> ?_) (fun c12=> ?_)
 exact zr<|za R R<|zn<|zt<|z1 R R (rI (Amh (O4 g7 c3) (.inr (.inr c12))))
 refine zr<|zp (Ae (s':= .d (.agg (Me.c m))) (Ac (Ad R R A8 R lb)) (by kernel_rfl))<|XL.call1 R R (Ahf _) R<|zp (Eu R R)<|za R R<|zn<|?_
 refine zd R (fun c30=> ?_) (fun c30=> ?_)
 exact zr<|za R R<|zn<|zt<|z1 R R (rI (Auy (O4 g7 c3) (Afh g16 g21 c12) c30))
 exact zi<|zr<|za R R<|zn<|zt<|z1 R R (rI (Aux (O4 g7 c3) (Afh g16 g21 c12) (Decidable.not_not.1 c30)))
structure Mok (m:Me):Prop where
 count:1≤m.count∧m.count≤64
 unit:1≤m.unit∧m.unit≤64
 pow:m.pow
 grp:m.grouped
theorem Jq {m:Me} (h:¬m.err≠0):Mok m:=by
 have h0:m.err=0:=by omega
 unfold Me.err at h0
 split at h0
 ·omega
 ·split at h0
  ·omega
  ·rename_i h2
   split at h0
   ·omega
   ·rename_i h3
    exact ⟨by omega,⟨by omega,by omega⟩,Decidable.not_not.1 fun k=>h2 (.inr (.inr k)),Decidable.not_not.1 h3⟩
def Me.u (m:Me):Int:=1935360 / m.unit
def Me.len (m:Me):Int:=m.count*m.u
theorem Mok.u {m:Me} (h:Mok m):1≤m.u∧m.u≤1935360:=by
 have:=h.unit
 unfold Me.u
 exact ⟨(Int.le_ediv_iff_mul_le (by omega)).2 (by omega),Int.ediv_le_self _ (by omega)⟩
theorem Mok.len {m:Me} (h:Mok m):1≤m.len∧m.len≤123863040:=by
 have h1:=h.u
 have h2:=h.count
 unfold Me.len
 have h3:1*1≤m.count*m.u:=Int.mul_le_mul h2.1 h1.1 (by omega) (by omega)
 have h4:m.count*m.u≤64*1935360:=Int.mul_le_mul h2.2 h1.2 (by omega) (by omega)
 omega
theorem It (m:Me) (h:Mok m):XC Tryz.prog 93 [.agg (Me.c m)] (fun r=>r=dI m.u):=by
 have hu:=h.unit
 exact Am Adr Tryz.func93 R R lb<|zr<|XL.step R (An 1 (l:= [.d (dI m.count), .d (dI m.unit), .d (dI m.g0), .d (dI m.g1), .d (dI m.g2), .d (dI m.g3), .d (dI m.g4), .d (dI m.g5)]) R R (by kernel_rfl))<|za R R<|znr<|zp (Aa R R Ld)<|zp (Ab R R Ai R R)<|zp (Ju R R R (by omega) (by omega) (by omega))<|za R R<|zn<|zt<|z1 R R (rI R)
theorem Mi (m:Me) (h:Mok m):XC Tryz.prog 54 [.agg (Me.c m)] (fun r=>r=dI m.len):=by
 have hu:=h.u
 have hc:=h.count
 have hl:=h.len
 have hl2:m.count*m.u=m.len:=rfl
 refine Am Aeh Tryz.func54 R R lb<|zr<|XL.step R (An 1 (l:= [.d (dI m.count), .d (dI m.unit), .d (dI m.g0), .d (dI m.g1), .d (dI m.g2), .d (dI m.g3), .d (dI m.g4), .d (dI m.g5)]) R R (by kernel_rfl))<|za R R<|zn<|zs<|B6 [] (by kernel_rfl) (by kernel_rfl) (by kernel_rfl) (by decide)<|yp (Aa R R I1)<|yp (Ab R R Ai R R)<|?_
 refine yp (Ae (s':= .d (.agg (Me.c m))) (Ac (Ad R R A8 R lb)) (by kernel_rfl))<|ChK.cons R (CStep.call R (It _ (by assumption)) R)<|yp (Mf R R R (by omega) (by omega))<|ya R R<|?_
 refine ChK.nil ⟨by kernel_rfl, ?_⟩
 exact zt<|z1 R R (rI R)
end Go.Proofs.YtaafemnkamfgnaaGreat
namespace Go.Proofs.YtaafemnkamfgnaaGreat
open Go.RowKit
def Jm:List Int→Int
 | []=>0
 |x::r=>r.foldl min x
def Jn:List Int→Int
 | []=>0
 |x::r=>r.foldl max x
theorem Ajj {l:List Int} (h:l≠ []) (x:Int):Jm (l++ [x])=min (Jm l) x:=by
 cases l with
 |nil=>exact absurd rfl h
 |cons a r=>simp only [Jm,List.cons_append,List.foldl_append,List.foldl_cons,List.foldl_nil]
theorem Ajm {l:List Int} (h:l≠ []) (x:Int):Jn (l++ [x])=max (Jn l) x:=by
 cases l with
 |nil=>exact absurd rfl h
 |cons a r=>simp only [Jn,List.cons_append,List.foldl_append,List.foldl_cons,List.foldl_nil]
theorem Ae1 {l:List Int} {k:Nat} (h:1≤k) (h2:0<l.length):l.take k≠ []:=fun e=>by
 have:=congrArg List.length e
 rw [List.length_take,List.length_nil] at this
 omega
theorem Aji {l:List Int} {k:Nat} {x:Int} (h:l[k]? =some x) (hk:1≤k):Jm (l.take (k+1))=min (Jm (l.take k)) x:=by
 rw [Bz h,Ajj (Ae1 hk (by have:=(List.getElem?_eq_some_iff.1 h).1;omega))]
theorem Ajl {l:List Int} {k:Nat} {x:Int} (h:l[k]? =some x) (hk:1≤k):Jn (l.take (k+1))=max (Jn (l.take k)) x:=by
 rw [Bz h,Ajm (Ae1 hk (by have:=(List.getElem?_eq_some_iff.1 h).1;omega))]
theorem Zo {l:List Int} {x:Int} (h:l[0]? =some x):Jm (l.take 1)=x∧Jn (l.take 1)=x:=by
 cases l with
 |nil=>cases h
 |cons a r=>cases h;exact ⟨rfl,rfl⟩
theorem Apn (l:List Int) (h:0<l.length):XC Tryz.prog 181 [.sl 1 (Ci l)] (fun r=>r=dI (Jm l)):=by
 refine Am Abe Tryz.func181 R R lb<|zr<|za R R<|zn<|zs<|zr<|zm R R<|XL.len R R R Tryz.underlying45 fun hl6=>zp (As R R R)<|zn<|?_
 refine zd R (fun c7=> ?_) (fun c7=> ?_)
 exfalso;omega
 refine zi<|zs<|?_
 obtain ⟨x,hx⟩:∃x,l[0]? =some x:=Aw h
 refine Ag (by kernel_rfl)<|zm R R<|zp (Ap (k:=0) R R R Dt (hx))<|zp (Ba R R Ai)<|za R R<|zn<|zs<|zr<|za R R<|zn<|Ah<|?_
 refine A0 (α:=Nat) (fun k=>1≤k∧k≤l.length) (fun k=>mkF [(0, .d (.sl 1 (Ci l))),(2, .d (dI 0)),(3, .d (dI (Jm (l.take k)))),(4, .d (dI k))]) (fun k=>mkH []) (fun k=>l.length - k) (1) (⟨Nat.le_refl _,h⟩) ?_ ?_ ?_
 exact fz ⟨sr,sr, .same (sI (Zo hx).1.symm),sr,trivial⟩
 exact HSub.nil
 intro k hk0
 refine zs<|zr<|zm R R<|zm R R<|XL.len R R R Tryz.underlying45 fun hl14=>zp (As R R R)<|zn<|?_
 refine zd R (fun c15=> ?_) (fun c15=> ?_)
 obtain ⟨y,hy⟩:∃y,l[k]? =some y:=Aw (by omega)
 refine zi<|zs<|Ah<|Ag (by kernel_rfl)<|zm R R<|zm R R<|zm R R<|zp (Ap R R R Dt (hy))<|zp (Ba R R Ai)<|zp (Gc R R R)<|za R R<|zn<|Ag (by kernel_rfl)<|zm R R<|?_
 refine zp (Ak R R R (by omega) (by omega))<|za R R<|zn<|?_
 exact Al (k+1) (by omega) (by omega) (fz ⟨sr,sr, .same (sI (by rw [Aji hy (by omega)])),sr,trivial⟩) (HSub.nil)
 have ht:l.take k=l:=List.take_of_length_le (by omega)
 exact Au<|zr<|zm R R<|za R R<|zn<|zt<|z1 R R (rI (by rw [ht]))
theorem Apo (l:List Int) (h:0<l.length):XC Tryz.prog 182 [.sl 1 (Ci l)] (fun r=>r=dI (Jn l)):=by
 refine Am Abd Tryz.func182 R R lb<|zr<|za R R<|zn<|zs<|zr<|zm R R<|XL.len R R R Tryz.underlying45 fun hl6=>zp (As R R R)<|zn<|?_
 refine zd R (fun c7=> ?_) (fun c7=> ?_)
 exfalso;omega
 refine zi<|zs<|?_
 obtain ⟨x,hx⟩:∃x,l[0]? =some x:=Aw h
 refine Ag (by kernel_rfl)<|zm R R<|zp (Ap (k:=0) R R R Dt (hx))<|zp (Ba R R Ai)<|za R R<|zn<|zs<|zr<|za R R<|zn<|Ah<|?_
 refine A0 (α:=Nat) (fun k=>1≤k∧k≤l.length) (fun k=>mkF [(0, .d (.sl 1 (Ci l))),(2, .d (dI 0)),(3, .d (dI (Jn (l.take k)))),(4, .d (dI k))]) (fun k=>mkH []) (fun k=>l.length - k) (1) (⟨Nat.le_refl _,h⟩) ?_ ?_ ?_
 exact fz ⟨sr,sr, .same (sI (Zo hx).2.symm),sr,trivial⟩
 exact HSub.nil
 intro k hk0
 refine zs<|zr<|zm R R<|zm R R<|XL.len R R R Tryz.underlying45 fun hl14=>zp (As R R R)<|zn<|?_
 refine zd R (fun c15=> ?_) (fun c15=> ?_)
 obtain ⟨y,hy⟩:∃y,l[k]? =some y:=Aw (by omega)
 refine zi<|zs<|Ah<|Ag (by kernel_rfl)<|zm R R<|zm R R<|zm R R<|zp (Ap R R R Dt (hy))<|zp (Ba R R Ai)<|zp (Ru R R R)<|za R R<|zn<|Ag (by kernel_rfl)<|zm R R<|?_
 refine zp (Ak R R R (by omega) (by omega))<|za R R<|zn<|?_
 exact Al (k+1) (by omega) (by omega) (fz ⟨sr,sr, .same (sI (by rw [Ajl hy (by omega)])),sr,trivial⟩) (HSub.nil)
 have ht:l.take k=l:=List.take_of_length_le (by omega)
 exact Au<|zr<|zm R R<|za R R<|zn<|zt<|z1 R R (rI (by rw [ht]))
def Jb (v:Int) (k:Nat):List Int→Int
 | []=> -1
 |x::r=>if v=x then k else Jb v (k+1) r
theorem Aj5 {v x:Int} {l:List Int} {k:Nat} (h:l[k]? =some x) (hv:v=x):Jb v k (l.drop k)=k:=by rw [B1 h,Jb,if_pos hv]
theorem Ahd {v x:Int} {l:List Int} {k:Nat} (h:l[k]? =some x) (hv:¬v=x):Jb v k (l.drop k)=Jb v (k+1) (l.drop (k+1)):=by rw [B1 h,Jb,if_neg hv]
theorem Aj4 (v:Int) (l:List Int):∀k,0≤Jb v k l↔v∈l:=by
 induction l with
 |nil=>intro k;simp [Jb]
 |cons x r ih=>
  intro k
  rw [Jb]
  split
  ·rename_i h;simp [h]
  ·rename_i h;rw [ih,List.mem_cons];exact ⟨.inr,fun k=>k.elim (fun e=>absurd e h) fun e=>e⟩
theorem Ait (l:List Int) (v:Int):XC Tryz.prog 203 [.sl 1 (Ci l), .v (.int .i64 v)] (fun r=>r=dI (Jb v 0 l)):=by
 refine Am Aau Tryz.func203 R R lb<|zr<|za R R<|zn<|zs<|zr<|zm R R<|XL.len R R R Tryz.underlying45 fun hl7=>zm R R<|zn<|Ah<|?_
 refine A0 (α:=Nat) (fun k=>k≤l.length∧Jb v k (l.drop k)=Jb v 0 l) (fun k=>mkF [(0, .d (.sl 1 (Ci l))),(1, .d (dI v)),(7, .d (dI l.length)),(8, .d (dI k))]) (fun k=>mkH []) (fun k=>l.length - k) (0) (⟨Nat.zero_le _,by rw [List.drop_zero]⟩) ?_ ?_ ?_
 exact fz ⟨sr,sr,sr,sr,trivial⟩
 exact HSub.nil
 intro k hk0
 obtain ⟨hk,hgo⟩:=hk0
 refine zr<|zp (As R R R)<|zn<|zs<|?_
 refine zd R (fun c9=> ?_) (fun c9=> ?_)
 have hk0a:k<l.length:=by omega
 obtain ⟨x0,hx0⟩:=Aw hk0a
 refine zi<|zs<|Ah<|zr<|zm R R<|za R R<|znr<|zm R R<|zm R R<|zm R R<|zp (Ap R R R Dt hx0)<|zp (Ba R R Ai)<|zp (A7 R R R)<|zn<|?_
 refine zd R (fun c16=> ?_) (fun c16=> ?_)
 exact zr<|zm R R<|za R R<|zn<|zt<|z1 R R (rI (by rw [←hgo,Aj5 hx0 c16]))
 refine zi<|Ag (by kernel_rfl)<|zp (Ak R R R (by omega) (by omega))<|zm R R<|zn<|?_
 exact Al (k+1) (⟨by omega,by rw [←Ahd hx0 c16];exact hgo⟩) (by omega) (fz ⟨sr,sr,sr,sr,trivial⟩) (HSub.nil)
 have hk0b:k=l.length:=by omega
 have hz:Jb v 0 l= -1:=by rw [←hgo,hk0b,List.drop_length];rfl
 exact Au<|zr<|za R R<|zn<|zt<|z1 R R (rI hz.symm)
theorem Na (l:List Int) (v:Int):XC Tryz.prog 183 [.sl 1 (Ci l), .v (.int .i64 v)] (fun r=>r=dB (decide (v∈l))):=by
 exact Am Abc Tryz.func183 R R lb<|zr<|za R R<|znr<|zm R R<|zm R R<|XL.call1 R R (Ait _ _) R<|zp (Gq R R R)<|za R R<|zn<|zt<|z1 R R (rB (by rw [decide_eq_decide];exact Aj4 v l 0))
end Go.Proofs.YtaafemnkamfgnaaGreat
namespace Go.Proofs.YtaafemnkamfgnaaGreat
open Go.RowKit
theorem Ox (l:List Hd) (h:l.length≤1000):XS Tryz.prog 140 [.sl 5 (l.map Hd.c)] (.own 5) [(5, .row 200 5 ((l).map Hd.c))]:=by
 refine D6 Ri Tryz.func140 R R lb (by kernel_rfl) (by kernel_rfl)<|zr<|za R R<|zn<|zs<|zr<|zm R R<|?_
 refine XL.eqnil R R R Tryz.underlying55 (fun hn4=> ?_) ?_
 refine zn<|Ay (by kernel_rfl) R<|zr<|za R R<|zn<|Di 5 2 200 5 R<|zt<|?_
 exact ⟨Ct R (RVS.tmp R R),HSub.cons (by rw [hn4];rfl) (HSub.nil)⟩
 refine zn<|A9 (by kernel_rfl) R<|zi<|zr<|XL.step R (Bj 5 R Tryz.underlying55 Yo Sq R R (by omega) (by omega))<|zm R R<|XL.step R (A3 R Akp (.own R) (Src.sl (by omega)) (by unfold maxLen;simp;omega) (by simp;omega))<|zp (Av R (by conv=>lhs;whnf))<|?_
 refine zn<|zt<|?_
 exact ⟨Ct R (RVS.tmp R R),HSub.cons (R) (HSub.nil)⟩
theorem Adk (l:List Gr) (h:l.length≤1000):XS Tryz.prog 141 [.sl 5 (l.map Gr.c)] (.own 5) [(5, .row 203 5 ((l).map Gr.c))]:=by
 refine D6 Rh Tryz.func141 R R lb (by kernel_rfl) (by kernel_rfl)<|zr<|za R R<|zn<|zs<|zr<|zm R R<|?_
 refine XL.eqnil R R R Tryz.underlying56 (fun hn4=> ?_) ?_
 refine zn<|Ay (by kernel_rfl) R<|zr<|za R R<|zn<|Di 5 2 203 5 R<|zt<|?_
 exact ⟨Ct R (RVS.tmp R R),HSub.cons (by rw [hn4];rfl) (HSub.nil)⟩
 refine zn<|A9 (by kernel_rfl) R<|zi<|zr<|XL.step R (Bj 5 R Tryz.underlying56 Yn Sp R R (by omega) (by omega))<|zm R R<|XL.step R (A3 R Ako (.own R) (Src.sl (by omega)) (by unfold maxLen;simp;omega) (by simp;omega))<|zp (Av R (by conv=>lhs;whnf))<|?_
 refine zn<|zt<|?_
 exact ⟨Ct R (RVS.tmp R R),HSub.cons (R) (HSub.nil)⟩
theorem Adg (l:List Sy) (h:l.length≤1000):XS Tryz.prog 142 [.sl 2 (l.map Sy.c)] (.own 5) [(5, .row 171 2 ((l).map Sy.c))]:=by
 refine D6 Rg Tryz.func142 R R lb (by kernel_rfl) (by kernel_rfl)<|zr<|za R R<|zn<|zs<|zr<|zm R R<|?_
 refine XL.eqnil R R R Tryz.underlying57 (fun hn4=> ?_) ?_
 refine zn<|Ay (by kernel_rfl) R<|zr<|za R R<|zn<|Di 5 2 171 2 R<|zt<|?_
 exact ⟨Ct R (RVS.tmp R R),HSub.cons (by rw [hn4];rfl) (HSub.nil)⟩
 refine zn<|A9 (by kernel_rfl) R<|zi<|zr<|XL.step R (Bj 5 R Tryz.underlying57 Yp Pa R R (by omega) (by omega))<|zm R R<|XL.step R (A3 R Akn (.own R) (Src.sl (by omega)) (by unfold maxLen;simp;omega) (by simp;omega))<|zp (Av R (by conv=>lhs;whnf))<|?_
 refine zn<|zt<|?_
 exact ⟨Ct R (RVS.tmp R R),HSub.cons (R) (HSub.nil)⟩
theorem Aaj (l:List Int) (h:l.length≤1000):XS Tryz.prog 200 [.sl 1 (l.map iv)] (.own 5) [(5, .row 3 1 ((l).map iv))]:=by
 refine D6 Aax Tryz.func200 R R lb (by kernel_rfl) (by kernel_rfl)<|zr<|za R R<|zn<|zs<|zr<|zm R R<|?_
 refine XL.eqnil R R R Tryz.underlying45 (fun hn4=> ?_) ?_
 refine zn<|Ay (by kernel_rfl) R<|zr<|za R R<|zn<|Di 5 2 3 1 R<|zt<|?_
 exact ⟨Ct R (RVS.tmp R R),HSub.cons (by rw [hn4];rfl) (HSub.nil)⟩
 refine zn<|A9 (by kernel_rfl) R<|zi<|zr<|XL.step R (Bj 5 R Tryz.underlying45 Er H7 R R (by omega) (by omega))<|zm R R<|XL.step R (A3 R Q9 (.own R) (Src.sl (by omega)) (by unfold maxLen;simp;omega) (by simp;omega))<|zp (Av R (by conv=>lhs;whnf))<|?_
 refine zn<|zt<|?_
 exact ⟨Ct R (RVS.tmp R R),HSub.cons (R) (HSub.nil)⟩
def G3 {α:Type} (f:α→α) (l:List α) (k:Nat):List α:=(l.take k).map f++l.drop k
theorem Mj {α:Type} (f:α→α) (l:List α):l=G3 f l 0:=by simp [G3]
theorem Oe {α:Type} {f:α→α} {l:List α} {k:Nat} (h:l.length≤k):G3 f l k=l.map f:=by rw [G3,List.take_of_length_le h,List.drop_eq_nil_of_le h,List.append_nil]
theorem Ly {α:Type} (f:α→α) (l:List α) (k:Nat):(G3 f l k).length=l.length:=by rw [G3,List.length_append,List.length_map,List.length_take,List.length_drop];omega
theorem Od {α:Type} {f:α→α} {l:List α} {k:Nat} {x:α} (h:l[k]? =some x):(G3 f l k)[k]? =some x:=by
 have hk:=(List.getElem?_eq_some_iff.1 h).1
 rw [G3,List.getElem?_append_right (by rw [List.length_map,List.length_take];omega),List.length_map,List.length_take,Nat.min_eq_left (by omega),Nat.sub_self,List.getElem?_drop]
 exact h
theorem Gf {α:Type} {f:α→α} {l:List α} {k:Nat} {x:α} (h:l[k]? =some x):G3 f l (k+1)=(G3 f l k).set k (f x):=by
 have hk:=(List.getElem?_eq_some_iff.1 h).1
 have hl:((l.take k).map f).length=k:=by rw [List.length_map,List.length_take];omega
 rw [G3,G3,Bz h,List.map_append,List.set_append_right _ _ (by omega),hl,Nat.sub_self,B1 h,List.set_cons_zero,List.append_assoc]
 rfl
def Hd.tie (h:Hd):Hd:=⟨h.p,true,h.sh⟩
def Hd.plain (h:Hd):Hd:=⟨h.p,h.tied,0⟩
theorem Qe (l:List Hd) (h:l.length≤1000):XC Tryz.prog 136 [.sl 5 (l.map Hd.c)] (fun r=>r= .sl 5 ((l.map Hd.tie).map Hd.c)):=by
 refine Am Acb Tryz.func136 R R lb<|zr<|za R R<|znr<|zm R R<|XL.callS R R ((Ox _ (by omega)).lab 7001) R<|zp (Av R (by conv=>lhs;whnf))<|?_
 refine zn<|zs<|zr<|zp (At R (by conv=>lhs;whnf))<|?_
 refine zp (B4 R R R Tryz.underlying55)<|zm R R<|zn<|Ah<|?_
 refine A0 (α:=Nat) (fun k=>k≤l.length) (fun k=>mkF [(0, .own 7001),(2, .d (.v (.slice none 0 0))),(6, .own 7001),(7, .d (dI l.length)),(8, .d (dI k))]) (fun k=>mkH [(7001, .row 200 5 ((G3 Hd.tie l k).map Hd.c))]) (fun k=>l.length - k) (0) (Nat.zero_le _) ?_ ?_ ?_
 exact fz ⟨sr,sr,sr,sr,sr,trivial⟩
 exact gz ⟨by rw [←Mj];rfl,trivial⟩
 intro k hk0
 refine zr<|zp (As R R R)<|zn<|zs<|?_
 refine zd R (fun c9=> ?_) (fun c9=> ?_)
 have hkl:k<l.length:=by omega
 obtain ⟨x,hx⟩:=Aw hkl
 have hml:=Ly Hd.tie l k
 have hg:=Od (f:=Hd.tie) hx
 refine zi<|zs<|Ah<|zr<|zm R R<|za R R<|zng<|zp (At R (by conv=>lhs;whnf))<|?_
 refine zm R R<|zp (Kl R R R R R5 (by omega))<|zp (Aa R R Akc)<|XL.step R (Dw R R R (Cv hg) R R Auj R lb)<|zn<|Ag (by kernel_rfl)<|zp (Ak R R R (by omega) (by omega))<|zm R R<|zn<|?_
 exact Al (k+1) (by omega) (by omega) (fz ⟨sr,sr,sr,sr,sr,trivial⟩) (gz ⟨L8 (a:=Hd.tie x) R (Gf hx),trivial⟩)
 have he:=Oe (f:=Hd.tie) (l:=l) (k:=k) (by omega)
 refine Au<|zr<|zp (At R (by conv=>lhs;whnf))<|?_
 refine zp (Av R (by conv=>lhs;whnf))<|?_
 exact zn<|zt<|Cg (i:=7001) R<|z1 R R (rSl he)
theorem P8 (l:List Hd) (h:l.length≤1000):XC Tryz.prog 135 [.sl 5 (l.map Hd.c)] (fun r=>r= .sl 5 ((l.map Hd.plain).map Hd.c)):=by
 refine Am Acc Tryz.func135 R R lb<|zr<|za R R<|znr<|zm R R<|XL.callS R R ((Ox _ (by omega)).lab 7001) R<|zp (Av R (by conv=>lhs;whnf))<|?_
 refine zn<|zs<|zr<|zp (At R (by conv=>lhs;whnf))<|?_
 refine zp (B4 R R R Tryz.underlying55)<|zm R R<|zn<|Ah<|?_
 refine A0 (α:=Nat) (fun k=>k≤l.length) (fun k=>mkF [(0, .own 7001),(2, .d (.v (.slice none 0 0))),(6, .own 7001),(7, .d (dI l.length)),(8, .d (dI k))]) (fun k=>mkH [(7001, .row 200 5 ((G3 Hd.plain l k).map Hd.c))]) (fun k=>l.length - k) (0) (Nat.zero_le _) ?_ ?_ ?_
 exact fz ⟨sr,sr,sr,sr,sr,trivial⟩
 exact gz ⟨by rw [←Mj];rfl,trivial⟩
 intro k hk0
 refine zr<|zp (As R R R)<|zn<|zs<|?_
 refine zd R (fun c9=> ?_) (fun c9=> ?_)
 have hkl:k<l.length:=by omega
 obtain ⟨x,hx⟩:=Aw hkl
 have hml:=Ly Hd.plain l k
 have hg:=Od (f:=Hd.plain) hx
 refine zi<|zs<|Ah<|zr<|zm R R<|za R R<|zng<|zp (At R (by conv=>lhs;whnf))<|?_
 refine zm R R<|zp (Kl R R R R R5 (by omega))<|zp (Aa R R Xi)<|XL.step R (Dw R R R (Cv hg) R R Er R lb)<|zn<|Ag (by kernel_rfl)<|zp (Ak R R R (by omega) (by omega))<|zm R R<|zn<|?_
 exact Al (k+1) (by omega) (by omega) (fz ⟨sr,sr,sr,sr,sr,trivial⟩) (gz ⟨L8 (a:=Hd.plain x) R (Gf hx),trivial⟩)
 have he:=Oe (f:=Hd.plain) (l:=l) (k:=k) (by omega)
 refine Au<|zr<|zp (At R (by conv=>lhs;whnf))<|?_
 refine zp (Av R (by conv=>lhs;whnf))<|?_
 exact zn<|zt<|Cg (i:=7001) R<|z1 R R (rSl he)
end Go.Proofs.YtaafemnkamfgnaaGreat
namespace Go.Proofs.YtaafemnkamfgnaaGreat
open Go.RowKit
def Ev.fit (e:Ev):Prop:=e.heads.length≤1000∧e.graces.length≤1000∧e.lyr.length≤1000
theorem Ra (e:Ev) (h:e.fit):XC Tryz.prog 111 [.agg (Ev.c e)] (fun r=>r= .agg (Ev.c e)):=by
 obtain ⟨h1,h2,h3⟩:=h
 refine Am Rk Tryz.func111 R R lb<|zr<|XL.step R (An 1 (l:= [.d (dI e.site), .d (dI e.num), .d (dI e.kind), .d (dI e.v.log), .d (dI e.v.dots), .d (.sl 5 (e.heads.map Hd.c)), .d (.sl 5 (e.graces.map Gr.c)), .d (dI e.art), .d (dI e.orn), .d (dI e.dyn), .d (.sl 2 (e.lyr.map Sy.c)), .d (dI e.stem), .d (dI e.beam)]) R R (by kernel_rfl))<|?_
 refine XL.step R (Ao 2 (l:= [.d (dI 0), .d (dI 0), .d (dI 0), .d (dI 0), .d (dI 0), .d (.v (.slice none 0 0)), .d (.v (.slice none 0 0)), .d (dI 0), .d (dI 0), .d (dI 0), .d (.v (.slice none 0 0)), .d (dI 0), .d (dI 0)]) R Ca (by kernel_rfl))<|zn<|zs<|Cj 10 [7001,7002,7003] (by kernel_rfl) (by kernel_rfl) (by kernel_rfl) (by kernel_rfl) (by decide)<|yp (Aa R R C6)<|?_
 refine yp (Ab R R Hy R R)<|ChK.cons R (CStep.callS R ((Ox _ (by omega)).lab 7001) R (G4 (by kernel_rfl)))<|yp (Aa R R Gk)<|yp (Ab R R N7 R R)<|ChK.cons R (CStep.callS R ((Adk _ (by omega)).lab 7002) R (G4 (by kernel_rfl)))<|yp (Aa R R El)<|yp (Ab R R Jt R R)<|?_
 refine ChK.cons R (CStep.callS R ((Adg _ (by omega)).lab 7003) R (G4 (by kernel_rfl)))<|yp (Aa R R C6)<|?_
 refine ChK.nil ⟨by kernel_rfl, ?_⟩
 refine XL.step R (Af (l':= [.d (dI e.site), .d (dI e.num), .d (dI e.kind), .d (dI e.v.log), .d (dI e.v.dots), .own 7001, .d (.sl 5 (e.graces.map Gr.c)), .d (dI e.art), .d (dI e.orn), .d (dI e.dyn), .d (.sl 2 (e.lyr.map Sy.c)), .d (dI e.stem), .d (dI e.beam)]) R R R R N3 R lb (by kernel_rfl))<|zp (Aa R R Gk)<|?_
 refine XL.step R (Af (l':= [.d (dI e.site), .d (dI e.num), .d (dI e.kind), .d (dI e.v.log), .d (dI e.v.dots), .own 7001, .own 7002, .d (dI e.art), .d (dI e.orn), .d (dI e.dyn), .d (.sl 2 (e.lyr.map Sy.c)), .d (dI e.stem), .d (dI e.beam)]) R R R R Agi R lb (by kernel_rfl))<|zp (Aa R R El)<|?_
 refine XL.step R (Af (l':= [.d (dI e.site), .d (dI e.num), .d (dI e.kind), .d (dI e.v.log), .d (dI e.v.dots), .own 7001, .own 7002, .d (dI e.art), .d (dI e.orn), .d (dI e.dyn), .own 7003, .d (dI e.stem), .d (dI e.beam)]) R R R R Agh R lb (by kernel_rfl))<|znr<|zp (Ac (Ad R R Bq R lb))<|?_
 refine XL.step R (Af (l':= [.d (dI e.site), .d (dI e.num), .d (dI e.kind), .d (dI e.v.log), .d (dI e.v.dots), .own 7001, .own 7002, .d (dI e.art), .d (dI e.orn), .d (dI e.dyn), .own 7003, .d (dI e.stem), .d (dI e.beam)]) R R R R Cy R lb (by kernel_rfl))<|zn<|zt<|Cg (i:=7001) R<|Cg (i:=7002) R<|Cg (i:=7003) R<|?_
 exact Jz R (RV.cells R R R Bq lb R) (R)
def Ev.eqv (a b:Ev):Prop:=(a.site=b.site∧a.num=b.num)∧a.same b
instance (a b:Ev):Decidable (a.eqv b):=by unfold Ev.eqv;exact inferInstance
theorem Aks (a b:Ev):XC Tryz.prog 109 [.agg (Ev.c a), .agg (Ev.c b)] (fun r=>r=dB (decide (a.eqv b))):=by
 refine Am Acm Tryz.func109 R R lb<|zr<|XL.step R (An 2 (l:= [.d (dI a.site), .d (dI a.num), .d (dI a.kind), .d (dI a.v.log), .d (dI a.v.dots), .d (.sl 5 (a.heads.map Hd.c)), .d (.sl 5 (a.graces.map Gr.c)), .d (dI a.art), .d (dI a.orn), .d (dI a.dyn), .d (.sl 2 (a.lyr.map Sy.c)), .d (dI a.stem), .d (dI a.beam)]) R R (by kernel_rfl))<|?_
 refine XL.step R (An 3 (l:= [.d (dI b.site), .d (dI b.num), .d (dI b.kind), .d (dI b.v.log), .d (dI b.v.dots), .d (.sl 5 (b.heads.map Hd.c)), .d (.sl 5 (b.graces.map Gr.c)), .d (dI b.art), .d (dI b.orn), .d (dI b.dyn), .d (.sl 2 (b.lyr.map Sy.c)), .d (dI b.stem), .d (dI b.beam)]) R R (by kernel_rfl))<|za R R<|znr<|zp (Aa R R Nq)<|?_
 refine zp (Ae (s':= .d (.agg [dI a.site,dI a.num])) (Ac (Ad R R Nx R lb)) (by kernel_rfl))<|zp (Aa R R Nq)<|zp (Ae (s':= .d (.agg [dI b.site,dI b.num])) (Ac (Ad R R Nx R lb)) (by kernel_rfl))<|zp (Ama R R R)<|zm R R<|?_
 refine XL.dec 10 R (fun g10=> ?_) (fun g10=> ?_)
 exact zp (Ae (s':= .d (.agg (Ev.c a))) (Ac (Ad R R Bq R lb)) (by kernel_rfl))<|zp (Ae (s':= .d (.agg (Ev.c b))) (Ac (Ad R R Bq R lb)) (by kernel_rfl))<|XL.call1 R R (Ae9 _ _) R<|zq R R R<|za R R<|zn<|zt<|z1 R R (rB (by rw [decide_eq_decide];exact ⟨fun h=>⟨g10,h⟩,fun h=>h.2⟩))
 exact zk 3 R<|zq R R R<|za R R<|zn<|zt<|z1 R R (rB (by rw [eq_comm,decide_eq_false_iff_not];exact fun h=>g10 h.1))
structure Vo.fit (v:Vo):Prop where
 evs:v.evs.length≤1000
 tups:v.tups.length≤1000
 ev:∀e∈v.evs,e.fit
theorem Ls (v:Vo) (h:v.fit):XC Tryz.prog 82 [.agg (Vo.c v)] (fun r=>r= .agg (Vo.c v)):=by
 have h1:=h.evs
 have h2:=h.tups
 refine Am Si Tryz.func82 R R lb<|zr<|XL.step R (An 1 (l:= [.d (.sl 13 (v.evs.map Ev.c)), .d (.sl 4 (v.tups.map Tp.c))]) R R (by kernel_rfl))<|XL.step R (Ao 2 (l:= [.d (.v (.slice none 0 0)), .d (.v (.slice none 0 0))]) R Bf (by kernel_rfl))<|znr<|XL.step R (Ao 3 (l:= [.d (.v (.slice none 0 0)), .d (.v (.slice none 0 0))]) R Bf (by kernel_rfl))<|zn<|zs<|zr<|?_
 refine zp (Aa R R Bk)<|zp (Ab R R Cz R R)<|XL.len R R R Tryz.underlying79 fun hl8=>zm R R<|zn<|Ah<|E6 900 3 0 59 13 (l':= [.own 900, .d (.v (.slice none 0 0))]) R R (by decide) (by kernel_rfl)<|?_
 refine A0 (α:=Nat) (fun k=>k≤v.evs.length) (fun k=>mkF [(1, .ptr 1 0 0),(2, .ptr 2 0 0),(3, .ptr 3 0 0),(7, .d (.sl 13 (v.evs.map Ev.c))),(8, .d (dI v.evs.length)),(9, .d (dI k))]) (fun k=>mkH [(1, .box ((Vo.c v).map S.d)),(2, .box [.d (.v (.slice none 0 0)), .d (.v (.slice none 0 0))]),(3, .box [.own 900, .d (.v (.slice none 0 0))]),(900, .row 59 13 ((v.evs.take k).map Ev.c))]) (fun k=>v.evs.length - k) (0) (Nat.zero_le _) ?_ ?_ ?_
 exact fz ⟨sr,sr,sr,sr,sr,sr,trivial⟩
 exact gz ⟨R,R,R,R,trivial⟩
 intro k hk0
 refine zr<|zp (As R R R)<|zn<|zs<|?_
 refine zd R (fun c10=> ?_) (fun c10=> ?_)
 have hk0a:k<v.evs.length:=by omega
 obtain ⟨x0,hx0⟩:=Aw hk0a
 have hf:=h.ev x0 (List.mem_of_getElem? hx0)
 have htl:(v.evs.take k).length=k:=by rw [List.length_take];omega
 refine zi<|zs<|Ah<|zr<|zp (Ap R R R G7 hx0)<|zp (Ae (s':= .d (.agg (Ev.c x0))) (A4 R R Bq lb) (by kernel_rfl))<|XL.step R (Ao 5 (l:= [.d (dI 0), .d (dI 0), .d (dI 0), .d (dI 0), .d (dI 0), .d (.v (.slice none 0 0)), .d (.v (.slice none 0 0)), .d (dI 0), .d (dI 0), .d (dI 0), .d (.v (.slice none 0 0)), .d (dI 0), .d (dI 0)]) R Ca (by kernel_rfl))<|?_
 refine XL.step R (Af (l':= [.d (dI x0.site), .d (dI x0.num), .d (dI x0.kind), .d (dI x0.v.log), .d (dI x0.v.dots), .d (.sl 5 (x0.heads.map Hd.c)), .d (.sl 5 (x0.graces.map Gr.c)), .d (dI x0.art), .d (dI x0.orn), .d (dI x0.dyn), .d (.sl 2 (x0.lyr.map Sy.c)), .d (dI x0.stem), .d (dI x0.beam)]) R R R R Cy R lb (by kernel_rfl))<|zn<|?_
 refine Cj 5 [] (by kernel_rfl) (by kernel_rfl) (by kernel_rfl) (by kernel_rfl) (by decide)<|yp (Aa R R Bk)<|yp (Ab R R Cz R R)<|yp (Ae (s':= .d (.agg (Ev.c x0))) (Ac (Ad R R Bq R lb)) (by kernel_rfl))<|ChK.cons R (CStep.call R (Ra _ (by assumption)) R)<|ChK.cons R (CStep.slice R Tryz.underlying79 Cy Ca R R (by omega) (by omega))<|?_
 refine ChK.nil ⟨by kernel_rfl, ?_⟩
 refine XL.step R (A3 R Fb (.own R) (Src.sl (by omega)) (by unfold maxLen;simp;omega) (by simp;omega))<|zp (Aa R R Bk)<|XL.step R (Af (l':= [.own 900, .d (.v (.slice none 0 0))]) R R R R N2 R lb (by kernel_rfl))<|zn<|Ag (by kernel_rfl)<|zp (Ak R R R (by omega) (by omega))<|zm R R<|zn<|?_
 exact Al (k+1) (by omega) (by omega) (fz ⟨sr,sr,sr,sr,sr,sr,trivial⟩) (gz ⟨R,R,R,Io R (Bz hx0),trivial⟩)
 have hk0b:k=v.evs.length:=by omega
 have ht:v.evs.take k=v.evs:=by rw [hk0b,List.take_length]
 refine Au<|zr<|zp (Aa R R B3)<|zp (Ab R R B5 R R)<|zp (Aa R R B3)<|zp (Ab R R B5 R R)<|XL.step R (A3 R F9 (.nil 25 _ _) (Src.sl (by omega)) (by unfold maxLen;simp;omega) (by simp;omega))<|zp (Aa R R B3)<|XL.step R (Af (l':= [.own 900, .own 25]) R R R R Gn R lb (by kernel_rfl))<|znr<|?_
 refine zp (Ac (Ad R R Aq R lb))<|XL.step R (Af (l':= [.own 900, .own 25]) R R R R Bm R lb (by kernel_rfl))<|zn<|zt<|Cg (i:=900) R<|Cg (i:=25) R<|?_
 exact Jz R (RV.cells R R R Aq lb R) (by rw [ht];rfl)
end Go.Proofs.YtaafemnkamfgnaaGreat
namespace Go.Proofs.YtaafemnkamfgnaaGreat
open Go.RowKit
def Ev.further (x:Ev):Ev:=⟨0,0,x.kind,⟨0,0⟩,x.heads.map Hd.plain, [],0,0,0, [],x.stem,0⟩
def Ev.put (y:Ev) (v:Val) (t:Bool):Ev:=⟨y.site,y.num,y.kind,v,if t then y.heads.map Hd.tie else y.heads,y.graces,y.art,y.orn,y.dyn,y.lyr,y.stem,y.beam⟩
def Fn (x:Ev) (n:Nat) (fu:Bool) (i:Nat) (v:Val):Ev:=(if 0<(i:Int)∨fu=true then x.further else x).put v (decide ((i:Int)+1<(n:Int)))
def Bw (x:Ev) (vs:List Val) (fu:Bool):List Ev:=vs.mapIdx (Fn x vs.length fu)
def Kq (x:Ev) (vs:List Val) (fu:Bool) (k:Nat):List Ev:=(vs.take k).mapIdx (Fn x vs.length fu)
theorem Ib {x:Ev} {vs:List Val} {fu:Bool} {k:Nat} {v:Val} (h:vs[k]? =some v) {y:Ev} (hy:Fn x vs.length fu k v=y):Kq x vs fu (k+1)=Kq x vs fu k++ [y]:=by
 have hk:=(List.getElem?_eq_some_iff.1 h).1
 rw [Kq,Bz h,List.mapIdx_append, ←hy]
 simp [Kq,List.length_take,Nat.min_eq_left (Nat.le_of_lt hk)]
theorem Ajf {x:Ev} {n i:Nat} {fu:Bool} {v:Val} (h:0<(i:Int)∨fu=true) (h2:(i:Int)+1<(n:Int)):Fn x n fu i v=x.further.put v true:=by rw [Fn,if_pos h,decide_eq_true h2]
theorem Aje {x:Ev} {n i:Nat} {fu:Bool} {v:Val} (h:0<(i:Int)∨fu=true) (h2:¬(i:Int)+1<(n:Int)):Fn x n fu i v=x.further.put v false:=by rw [Fn,if_pos h,decide_eq_false h2]
theorem Asc {x:Ev} {n i:Nat} {fu:Bool} {v:Val} (h:¬0<(i:Int)) (h':fu=false) (h2:(i:Int)+1<(n:Int)):Fn x n fu i v=x.put v true:=by rw [Fn,if_neg (by rw [h'];simp;omega),decide_eq_true h2]
theorem Asb {x:Ev} {n i:Nat} {fu:Bool} {v:Val} (h:¬0<(i:Int)) (h':fu=false) (h2:¬(i:Int)+1<(n:Int)):Fn x n fu i v=x.put v false:=by rw [Fn,if_neg (by rw [h'];simp;omega),decide_eq_false h2]
theorem Ni (x:Ev) (vs:List Val) (fu:Bool) (h:x.fit) (hv:vs.length≤3000):XS Tryz.prog 105 [.agg (Ev.c x), .sl 2 (vs.map Val.c), .v (.bool fu)] (.own 900) [(900, .row 59 13 ((Bw x vs fu).map Ev.c))]:=by
 have hf:=h
 have hf1:=h.1
 refine D6 Aco Tryz.func105 R R lb (by kernel_rfl) (by kernel_rfl)<|zr<|XL.step R (An 3 (l:= [.d (dI x.site), .d (dI x.num), .d (dI x.kind), .d (dI x.v.log), .d (dI x.v.dots), .d (.sl 5 (x.heads.map Hd.c)), .d (.sl 5 (x.graces.map Gr.c)), .d (dI x.art), .d (dI x.orn), .d (dI x.dyn), .d (.sl 2 (x.lyr.map Sy.c)), .d (dI x.stem), .d (dI x.beam)]) R R (by kernel_rfl))<|za R R<|znr<|?_
 refine za R R<|zn<|zs<|zr<|zm R R<|XL.len R R R Tryz.underlying159 fun hl12=>zm R R<|zn<|Ah<|Di 900 7 59 13 R<|?_
 refine A0 (α:=Nat) (fun k=>k≤vs.length) (fun k=>mkF [(1, .d (.sl 2 (vs.map Val.c))),(2, .d (dB fu)),(3, .ptr 3 0 0),(6, .d (.v (.slice none 0 0))),(7, .own 900),(11, .d (.sl 2 (vs.map Val.c))),(12, .d (dI vs.length)),(13, .d (dI k))]) (fun k=>mkH [(3, .box ((Ev.c x).map S.d)),(900, .row 59 13 ((Kq x vs fu k).map Ev.c))]) (fun k=>vs.length - k) (0) (Nat.zero_le _) ?_ ?_ ?_
 exact fz ⟨sr,sr,sr,sr,sr,sr,sr,sr,trivial⟩
 exact gz ⟨R,R,trivial⟩
 intro k hk0
 refine zr<|zp (As R R R)<|zn<|zs<|?_
 refine zd R (fun c14=> ?_) (fun c14=> ?_)
 have hk0a:k<vs.length:=by omega
 obtain ⟨x0,hx0⟩:=Aw hk0a
 have hnl:(Kq x vs fu k).length=k:=by rw [Kq,List.length_mapIdx,List.length_take];omega
 have hpl:(x.heads.map Hd.plain).length≤1000:=by rw [List.length_map];exact hf1
 refine zi<|zs<|Ah<|zr<|zm R R<|zp (Ap R R R Asy hx0)<|zp (Ae (s':= .d (.agg (Val.c x0))) (A4 R R Ej lb) (by kernel_rfl))<|XL.step R (Ao 9 (l:= [.d (dI 0), .d (dI 0)]) R Fw (by kernel_rfl))<|za R R<|XL.step R (Af (l':= [.d (dI x0.log), .d (dI x0.dots)]) R R R R Hv R lb (by kernel_rfl))<|znr<|?_
 refine zp (Ae (s':= .d (.agg (Ev.c x))) (Ac (Ad R R Bq R lb)) (by kernel_rfl))<|XL.call1 R R (Ra _ (by assumption)) R<|XL.step R (Ao 10 (l:= [.d (dI 0), .d (dI 0), .d (dI 0), .d (dI 0), .d (dI 0), .d (.v (.slice none 0 0)), .d (.v (.slice none 0 0)), .d (dI 0), .d (dI 0), .d (dI 0), .d (.v (.slice none 0 0)), .d (dI 0), .d (dI 0)]) R Ca (by kernel_rfl))<|?_
 refine XL.step R (Af (l':= [.d (dI x.site), .d (dI x.num), .d (dI x.kind), .d (dI x.v.log), .d (dI x.v.dots), .d (.sl 5 (x.heads.map Hd.c)), .d (.sl 5 (x.graces.map Gr.c)), .d (dI x.art), .d (dI x.orn), .d (dI x.dyn), .d (.sl 2 (x.lyr.map Sy.c)), .d (dI x.stem), .d (dI x.beam)]) R R R R Cy R lb (by kernel_rfl))<|zn<|zs<|zr<|zm R R<|zp (Bb R R R)<|zm R R<|?_
 refine XL.dec 22 R (fun g22=> ?_) (fun g22=> ?_)
 refine XL.skip R<|zq R R R<|zn<|Ay (by kernel_rfl) R<|Cj 7 [] (by kernel_rfl) (by kernel_rfl) (by kernel_rfl) (by kernel_rfl) (by decide)<|yp (Aa R R Df)<|yp (Ab R R Ai R R)<|yp (Aa R R Iz)<|yp (Ab R R Ai R R)<|yp (Aa R R C6)<|yp (Ab R R Hy R R)<|ChK.cons R (CStep.call R (P8 _ (by omega)) R)<|?_
 refine ChK.nil ⟨by kernel_rfl, ?_⟩
 refine zp (Ae (s':= .d (.agg [dI 0,dI 0,dI x.kind,dI 0,dI 0, .sl 5 ((x.heads.map Hd.plain).map Hd.c), .v (.slice none 0 0),dI 0,dI 0,dI 0, .v (.slice none 0 0),dI x.stem,dI 0])) (Ac (A1 R Qf Ca R)) (by kernel_rfl))<|?_
 refine XL.step R (Af (l':= [.d (dI 0), .d (dI 0), .d (dI x.kind), .d (dI 0), .d (dI 0), .d (.sl 5 ((x.heads.map Hd.plain).map Hd.c)), .d (.v (.slice none 0 0)), .d (dI 0), .d (dI 0), .d (dI 0), .d (.v (.slice none 0 0)), .d (dI x.stem), .d (dI 0)]) R R R R Cy R lb (by kernel_rfl))<|znr<|zp (Ae (s':= .d (.agg (Val.c x0))) (Ac (Ad R R Ej R lb)) (by kernel_rfl))<|?_
 refine zp (Aa R R H5)<|XL.step R (Af (l':= [.d (dI 0), .d (dI 0), .d (dI x.kind), .d (dI x0.log), .d (dI x0.dots), .d (.sl 5 ((x.heads.map Hd.plain).map Hd.c)), .d (.v (.slice none 0 0)), .d (dI 0), .d (dI 0), .d (dI 0), .d (.v (.slice none 0 0)), .d (dI x.stem), .d (dI 0)]) R R R R Hv R lb (by kernel_rfl))<|zn<|zs<|zr<|zm R R<|zp (Ak R R R (by omega) (by omega))<|zm R R<|?_
 refine XL.len R R R Tryz.underlying159 fun hl38=>zp (As R R R)<|zn<|?_
 refine zd R (fun c39=> ?_) (fun c39=> ?_)
 refine Ag (by kernel_rfl)<|zp (Aa R R C6)<|zp (Ab R R Hy R R)<|XL.call1 R R (Qe _ (by omega)) R<|zp (Aa R R C6)<|?_
 refine XL.step R (Af (l':= [.d (dI 0), .d (dI 0), .d (dI x.kind), .d (dI x0.log), .d (dI x0.dots), .d (.sl 5 (((x.heads.map Hd.plain).map Hd.tie).map Hd.c)), .d (.v (.slice none 0 0)), .d (dI 0), .d (dI 0), .d (dI 0), .d (.v (.slice none 0 0)), .d (dI x.stem), .d (dI 0)]) R R R R N3 R lb (by kernel_rfl))<|zng<|zp (At R (by conv=>lhs;whnf))<|?_
 refine zp (Ae (s':= .d (.agg [dI 0,dI 0,dI x.kind,dI x0.log,dI x0.dots, .sl 5 (((x.heads.map Hd.plain).map Hd.tie).map Hd.c), .v (.slice none 0 0),dI 0,dI 0,dI 0, .v (.slice none 0 0),dI x.stem,dI 0])) (Ac (Ad R R Bq R lb)) (by kernel_rfl))<|XL.step R (Bj 46 R Tryz.underlying79 Cy Ca R R (by omega) (by omega))<|?_
 refine XL.row1 (i:=46) R (.cons (.same R) (.cons (.same R) (.cons (.same R) (.cons (.same R) (.cons (.same R) (.cons (.same R) (.cons (.nil 5) (.cons (.same R) (.cons (.same R) (.cons (.same R) (.cons (.nil 2) (.cons (.same R) (.cons (.same R) (.nil))))))))))))))<|XL.step R (A3 R Fb (.own R) (Src.own R) (by unfold maxLen;simp;omega) (by simp;omega))<|?_
 refine zp (Av R (by conv=>lhs;whnf))<|?_
 refine zn<|Ag (by kernel_rfl)<|zp (Ak R R R (by omega) (by omega))<|zm R R<|zn<|?_
 exact Al (k+1) (by omega) (by omega) (fz ⟨sr,sr,sr,sr,sr,sr,sr,sr,trivial⟩) (gz ⟨R,Io R (Ib hx0 (Ajf (.inl g22) c39)),trivial⟩)
 refine zi<|Ag (by kernel_rfl)<|zp (At R (by conv=>lhs;whnf))<|?_
 refine zp (Ae (s':= .d (.agg [dI 0,dI 0,dI x.kind,dI x0.log,dI x0.dots, .sl 5 ((x.heads.map Hd.plain).map Hd.c), .v (.slice none 0 0),dI 0,dI 0,dI 0, .v (.slice none 0 0),dI x.stem,dI 0])) (Ac (Ad R R Bq R lb)) (by kernel_rfl))<|XL.step R (Bj 46 R Tryz.underlying79 Cy Ca R R (by omega) (by omega))<|?_
 refine XL.row1 (i:=46) R (.cons (.same R) (.cons (.same R) (.cons (.same R) (.cons (.same R) (.cons (.same R) (.cons (.same R) (.cons (.nil 5) (.cons (.same R) (.cons (.same R) (.cons (.same R) (.cons (.nil 2) (.cons (.same R) (.cons (.same R) (.nil))))))))))))))<|XL.step R (A3 R Fb (.own R) (Src.own R) (by unfold maxLen;simp;omega) (by simp;omega))<|?_
 refine zp (Av R (by conv=>lhs;whnf))<|?_
 refine zn<|Ag (by kernel_rfl)<|zp (Ak R R R (by omega) (by omega))<|zm R R<|zn<|?_
 exact Al (k+1) (by omega) (by omega) (fz ⟨sr,sr,sr,sr,sr,sr,sr,sr,trivial⟩) (gz ⟨R,Io R (Ib hx0 (Aje (.inl g22) c39)),trivial⟩)
 refine zm R R<|zq R R R<|zn<|?_
 refine Fd (by kernel_rfl) R (fun c24=> ?_) (fun c24=> ?_)
 refine Cj 7 [] (by kernel_rfl) (by kernel_rfl) (by kernel_rfl) (by kernel_rfl) (by decide)<|yp (Aa R R Df)<|yp (Ab R R Ai R R)<|yp (Aa R R Iz)<|yp (Ab R R Ai R R)<|yp (Aa R R C6)<|yp (Ab R R Hy R R)<|ChK.cons R (CStep.call R (P8 _ (by omega)) R)<|?_
 refine ChK.nil ⟨by kernel_rfl, ?_⟩
 refine zp (Ae (s':= .d (.agg [dI 0,dI 0,dI x.kind,dI 0,dI 0, .sl 5 ((x.heads.map Hd.plain).map Hd.c), .v (.slice none 0 0),dI 0,dI 0,dI 0, .v (.slice none 0 0),dI x.stem,dI 0])) (Ac (A1 R Qf Ca R)) (by kernel_rfl))<|?_
 refine XL.step R (Af (l':= [.d (dI 0), .d (dI 0), .d (dI x.kind), .d (dI 0), .d (dI 0), .d (.sl 5 ((x.heads.map Hd.plain).map Hd.c)), .d (.v (.slice none 0 0)), .d (dI 0), .d (dI 0), .d (dI 0), .d (.v (.slice none 0 0)), .d (dI x.stem), .d (dI 0)]) R R R R Cy R lb (by kernel_rfl))<|znr<|zp (Ae (s':= .d (.agg (Val.c x0))) (Ac (Ad R R Ej R lb)) (by kernel_rfl))<|?_
 refine zp (Aa R R H5)<|XL.step R (Af (l':= [.d (dI 0), .d (dI 0), .d (dI x.kind), .d (dI x0.log), .d (dI x0.dots), .d (.sl 5 ((x.heads.map Hd.plain).map Hd.c)), .d (.v (.slice none 0 0)), .d (dI 0), .d (dI 0), .d (dI 0), .d (.v (.slice none 0 0)), .d (dI x.stem), .d (dI 0)]) R R R R Hv R lb (by kernel_rfl))<|zn<|zs<|zr<|zm R R<|zp (Ak R R R (by omega) (by omega))<|zm R R<|?_
 refine XL.len R R R Tryz.underlying159 fun hl38=>zp (As R R R)<|zn<|?_
 refine zd R (fun c39=> ?_) (fun c39=> ?_)
 refine Ag (by kernel_rfl)<|zp (Aa R R C6)<|zp (Ab R R Hy R R)<|XL.call1 R R (Qe _ (by omega)) R<|zp (Aa R R C6)<|?_
 refine XL.step R (Af (l':= [.d (dI 0), .d (dI 0), .d (dI x.kind), .d (dI x0.log), .d (dI x0.dots), .d (.sl 5 (((x.heads.map Hd.plain).map Hd.tie).map Hd.c)), .d (.v (.slice none 0 0)), .d (dI 0), .d (dI 0), .d (dI 0), .d (.v (.slice none 0 0)), .d (dI x.stem), .d (dI 0)]) R R R R N3 R lb (by kernel_rfl))<|zng<|zp (At R (by conv=>lhs;whnf))<|?_
 refine zp (Ae (s':= .d (.agg [dI 0,dI 0,dI x.kind,dI x0.log,dI x0.dots, .sl 5 (((x.heads.map Hd.plain).map Hd.tie).map Hd.c), .v (.slice none 0 0),dI 0,dI 0,dI 0, .v (.slice none 0 0),dI x.stem,dI 0])) (Ac (Ad R R Bq R lb)) (by kernel_rfl))<|XL.step R (Bj 46 R Tryz.underlying79 Cy Ca R R (by omega) (by omega))<|?_
 refine XL.row1 (i:=46) R (.cons (.same R) (.cons (.same R) (.cons (.same R) (.cons (.same R) (.cons (.same R) (.cons (.same R) (.cons (.nil 5) (.cons (.same R) (.cons (.same R) (.cons (.same R) (.cons (.nil 2) (.cons (.same R) (.cons (.same R) (.nil))))))))))))))<|XL.step R (A3 R Fb (.own R) (Src.own R) (by unfold maxLen;simp;omega) (by simp;omega))<|?_
 refine zp (Av R (by conv=>lhs;whnf))<|?_
 refine zn<|Ag (by kernel_rfl)<|zp (Ak R R R (by omega) (by omega))<|zm R R<|zn<|?_
 exact Al (k+1) (by omega) (by omega) (fz ⟨sr,sr,sr,sr,sr,sr,sr,sr,trivial⟩) (gz ⟨R,Io R (Ib hx0 (Ajf (.inr c24) c39)),trivial⟩)
 refine zi<|Ag (by kernel_rfl)<|zp (At R (by conv=>lhs;whnf))<|?_
 refine zp (Ae (s':= .d (.agg [dI 0,dI 0,dI x.kind,dI x0.log,dI x0.dots, .sl 5 ((x.heads.map Hd.plain).map Hd.c), .v (.slice none 0 0),dI 0,dI 0,dI 0, .v (.slice none 0 0),dI x.stem,dI 0])) (Ac (Ad R R Bq R lb)) (by kernel_rfl))<|XL.step R (Bj 46 R Tryz.underlying79 Cy Ca R R (by omega) (by omega))<|?_
 refine XL.row1 (i:=46) R (.cons (.same R) (.cons (.same R) (.cons (.same R) (.cons (.same R) (.cons (.same R) (.cons (.same R) (.cons (.nil 5) (.cons (.same R) (.cons (.same R) (.cons (.same R) (.cons (.nil 2) (.cons (.same R) (.cons (.same R) (.nil))))))))))))))<|XL.step R (A3 R Fb (.own R) (Src.own R) (by unfold maxLen;simp;omega) (by simp;omega))<|?_
 refine zp (Av R (by conv=>lhs;whnf))<|?_
 refine zn<|Ag (by kernel_rfl)<|zp (Ak R R R (by omega) (by omega))<|zm R R<|zn<|?_
 exact Al (k+1) (by omega) (by omega) (fz ⟨sr,sr,sr,sr,sr,sr,sr,sr,trivial⟩) (gz ⟨R,Io R (Ib hx0 (Aje (.inr c24) c39)),trivial⟩)
 refine zi<|zr<|zp (Ae (s':= .d (.agg (Val.c x0))) (Ac (Ad R R Ej R lb)) (by kernel_rfl))<|zp (Aa R R H5)<|?_
 refine XL.step R (Af (l':= [.d (dI x.site), .d (dI x.num), .d (dI x.kind), .d (dI x0.log), .d (dI x0.dots), .d (.sl 5 (x.heads.map Hd.c)), .d (.sl 5 (x.graces.map Gr.c)), .d (dI x.art), .d (dI x.orn), .d (dI x.dyn), .d (.sl 2 (x.lyr.map Sy.c)), .d (dI x.stem), .d (dI x.beam)]) R R R R Hv R lb (by kernel_rfl))<|zn<|zs<|zr<|zm R R<|zp (Ak R R R (by omega) (by omega))<|zm R R<|?_
 refine XL.len R R R Tryz.underlying159 fun hl38=>zp (As R R R)<|zn<|?_
 refine zd R (fun c39=> ?_) (fun c39=> ?_)
 refine Ag (by kernel_rfl)<|zp (Aa R R C6)<|zp (Ab R R Hy R R)<|XL.call1 R R (Qe _ (by omega)) R<|zp (Aa R R C6)<|?_
 refine XL.step R (Af (l':= [.d (dI x.site), .d (dI x.num), .d (dI x.kind), .d (dI x0.log), .d (dI x0.dots), .d (.sl 5 ((x.heads.map Hd.tie).map Hd.c)), .d (.sl 5 (x.graces.map Gr.c)), .d (dI x.art), .d (dI x.orn), .d (dI x.dyn), .d (.sl 2 (x.lyr.map Sy.c)), .d (dI x.stem), .d (dI x.beam)]) R R R R N3 R lb (by kernel_rfl))<|zng<|zp (At R (by conv=>lhs;whnf))<|?_
 refine zp (Ae (s':= .d (.agg [dI x.site,dI x.num,dI x.kind,dI x0.log,dI x0.dots, .sl 5 ((x.heads.map Hd.tie).map Hd.c), .sl 5 (x.graces.map Gr.c),dI x.art,dI x.orn,dI x.dyn, .sl 2 (x.lyr.map Sy.c),dI x.stem,dI x.beam])) (Ac (Ad R R Bq R lb)) (by kernel_rfl))<|XL.step R (Bj 46 R Tryz.underlying79 Cy Ca R R (by omega) (by omega))<|?_
 refine XL.step R (A3 R Fb (.own R) (Src.own R) (by unfold maxLen;simp;omega) (by simp;omega))<|zp (Av R (by conv=>lhs;whnf))<|?_
 refine zn<|Ag (by kernel_rfl)<|zp (Ak R R R (by omega) (by omega))<|zm R R<|zn<|?_
 exact Al (k+1) (by omega) (by omega) (fz ⟨sr,sr,sr,sr,sr,sr,sr,sr,trivial⟩) (gz ⟨R,Io R (Ib hx0 (Asc g22 c24 c39)),trivial⟩)
 refine zi<|Ag (by kernel_rfl)<|zp (At R (by conv=>lhs;whnf))<|?_
 refine zp (Ae (s':= .d (.agg [dI x.site,dI x.num,dI x.kind,dI x0.log,dI x0.dots, .sl 5 (x.heads.map Hd.c), .sl 5 (x.graces.map Gr.c),dI x.art,dI x.orn,dI x.dyn, .sl 2 (x.lyr.map Sy.c),dI x.stem,dI x.beam])) (Ac (Ad R R Bq R lb)) (by kernel_rfl))<|XL.step R (Bj 46 R Tryz.underlying79 Cy Ca R R (by omega) (by omega))<|?_
 refine XL.step R (A3 R Fb (.own R) (Src.own R) (by unfold maxLen;simp;omega) (by simp;omega))<|zp (Av R (by conv=>lhs;whnf))<|?_
 refine zn<|Ag (by kernel_rfl)<|zp (Ak R R R (by omega) (by omega))<|zm R R<|zn<|?_
 exact Al (k+1) (by omega) (by omega) (fz ⟨sr,sr,sr,sr,sr,sr,sr,sr,trivial⟩) (gz ⟨R,Io R (Ib hx0 (Asb g22 c24 c39)),trivial⟩)
 have hk0b:k=vs.length:=by omega
 have ht:Kq x vs fu k=Bw x vs fu:=by rw [Kq,hk0b,List.take_length];rfl
 refine Au<|zr<|zp (At R (by conv=>lhs;whnf))<|?_
 refine zp (Av R (by conv=>lhs;whnf))<|?_
 refine zn<|zt<|?_
 exact ⟨Ct R (RVS.tmp R R),HSub.cons (by rw [ht];rfl) (HSub.nil)⟩
end Go.Proofs.YtaafemnkamfgnaaGreat
namespace Go.Proofs.YtaafemnkamfgnaaGreat
open Go.RowKit
def Ev.silent (e:Ev):Prop:=(e.kind=2∨e.kind=4)∧e.dyn=0∧e.art=0
instance (e:Ev):Decidable e.silent:=by unfold Ev.silent;exact inferInstance
def Ev.bare (y:Ev) (stem:Int):Ev:=⟨y.site,y.num,1,y.v,y.heads.map Hd.plain, [],0,0,0, [],stem,0⟩
def Yi (a b:List Hd):Prop:=∀(j:Nat) (x y:Hd),a[j]? =some x→b[j]? =some y→x.tied=true∧x.p=y.p
def Ev.conts (x y:Ev) (stem:Int):Prop:=x.kind=1∧x.heads.length=y.heads.length∧Yi x.heads y.heads∧y.eqv (y.bare stem)
open Classical in
noncomputable def Ev.contB (x y:Ev) (stem:Int):Bool:=decide (x.conts y stem)
def Pl.bad (p:Pl):Prop:=p.off<0∨15482880<p.off∨p.len<1∨15482880<p.len
instance (p:Pl):Decidable p.bad:=by unfold Pl.bad;exact inferInstance
def Pl.chk (p:Pl) (v:Vo):Int:=if p.m.err≠0 then p.m.err else if p.bad then 2 else ckE v p.len
theorem Auq {p:Pl} {v:Vo} (h:p.m.err≠0):p.m.err=p.chk v:=by rw [Pl.chk,if_pos h]
theorem Agx {p:Pl} {v:Vo} (h:¬p.m.err≠0) (h2:p.bad):2=p.chk v:=by rw [Pl.chk,if_neg h,if_pos h2]
theorem Aup {p:Pl} {v:Vo} (h:¬p.m.err≠0) (h2:¬p.bad):ckE v p.len=p.chk v:=by rw [Pl.chk,if_neg h,if_neg h2]
theorem Agw (p:Pl) (v:Vo) (hE:Evs v.evs):XC Tryz.prog 128 [.agg (Pl.c p), .agg (Vo.c v)] (fun r=>r=dI (p.chk v)):=by
 refine Am Aci Tryz.func128 R R lb<|zr<|XL.step R (An 2 (l:= [.d (dI p.m.count), .d (dI p.m.unit), .d (dI p.m.g0), .d (dI p.m.g1), .d (dI p.m.g2), .d (dI p.m.g3), .d (dI p.m.g4), .d (dI p.m.g5), .d (dI p.off), .d (dI p.len)]) R R (by kernel_rfl))<|XL.step R (An 3 (l:= [.d (.sl 13 (v.evs.map Ev.c)), .d (.sl 4 (v.tups.map Tp.c))]) R R (by kernel_rfl))<|za R R<|zn<|zs<|zr<|?_
 refine zp (Aa R R Ns)<|zp (Ae (s':= .d (.agg (Me.c p.m))) (Ac (Ad R R A8 R lb)) (by kernel_rfl))<|XL.call1 R R (Oc _) R<|za R R<|znr<|zm R R<|zp (Az R R R)<|zn<|?_
 refine zd R (fun c10=> ?_) (fun c10=> ?_)
 exact zr<|zm R R<|za R R<|zn<|zt<|z1 R R (rI (Auq c10))
 refine zi<|zs<|zr<|zp (Aa R R E0)<|zp (Ab R R Ai R R)<|zp (As R R R)<|zm R R<|?_
 refine XL.dec 15 R (fun g15=> ?_) (fun g15=> ?_)
 exact zk 3 R<|zq R R R<|zm R R<|zk 3 R<|zq R R R<|zm R R<|zk 3 R<|zq R R R<|zn<|Ay (by kernel_rfl) R<|zr<|za R R<|zn<|zt<|z1 R R (rI (Agx c10 (by unfold Pl.bad;omega)))
 refine zp (Aa R R E0)<|zp (Ab R R Ai R R)<|zp (Bb R R R)<|zq R R R<|zm R R<|?_
 refine XL.dec 20 R (fun g20=> ?_) (fun g20=> ?_)
 exact zk 3 R<|zq R R R<|zm R R<|zk 3 R<|zq R R R<|zn<|Ay (by kernel_rfl) R<|zr<|za R R<|zn<|zt<|z1 R R (rI (Agx c10 (by unfold Pl.bad;omega)))
 refine zp (Aa R R Cw)<|zp (Ab R R Ai R R)<|zp (As R R R)<|zq R R R<|zm R R<|?_
 refine XL.dec 25 R (fun g25=> ?_) (fun g25=> ?_)
 exact zk 3 R<|zq R R R<|zn<|Ay (by kernel_rfl) R<|zr<|za R R<|zn<|zt<|z1 R R (rI (Agx c10 (by unfold Pl.bad;omega)))
 refine zp (Aa R R Cw)<|zp (Ab R R Ai R R)<|zp (Bb R R R)<|zq R R R<|zn<|?_
 refine zd R (fun c29=> ?_) (fun c29=> ?_)
 exact zr<|za R R<|zn<|zt<|z1 R R (rI (Agx c10 (by unfold Pl.bad;omega)))
 exact zi<|zr<|zp (Ae (s':= .d (.agg (Vo.c v))) (Ac (Ad R R Aq R lb)) (by kernel_rfl))<|zp (Aa R R Cw)<|zp (Ab R R Ai R R)<|XL.call1 R R (H6 _ _ (by assumption)) R<|za R R<|zn<|zt<|z1 R R (rI (Aup c10 (by unfold Pl.bad;omega)))
end Go.Proofs.YtaafemnkamfgnaaGreat
namespace Go.Proofs.YtaafemnkamfgnaaGreat
open Go.RowKit
theorem Aqw (t:Tp) (a b:Int):XC Tryz.prog 103 [.agg (Tp.c t), .pt [dI a], .pt [dI b]] (fun r=>r=dB (decide (a≤t.first∧t.first<b))):=by
 refine Am Acq Tryz.func103 R R lb<|zr<|XL.step R (An 3 (l:= [.d (dI t.first), .d (dI t.count), .d (dI t.actual), .d (dI t.normal)]) R R (by kernel_rfl))<|za R R<|znr<|zp (Aa R R Bv)<|zp (Ab R R Ai R R)<|zp (Ba R R Ai)<|zp (Gq R R R)<|zm R R<|?_
 refine XL.dec 9 R (fun g9=> ?_) (fun g9=> ?_)
 exact zp (Aa R R Bv)<|zp (Ab R R Ai R R)<|zp (Ba R R Ai)<|zp (As R R R)<|zq R R R<|za R R<|zn<|zt<|z1 R R (rB (by rw [decide_eq_decide];omega))
 exact zk 4 R<|zq R R R<|za R R<|zn<|zt<|z1 R R (rB (by rw [eq_comm,decide_eq_false_iff_not];omega))
theorem Aps (t:Tp) (a:Int):XC Tryz.prog 175 [.agg (Tp.c t), .pt [dI a]] (fun r=>r=dB (decide (t.first<a))):=by
 exact Am Abj Tryz.func175 R R lb<|zr<|XL.step R (An 2 (l:= [.d (dI t.first), .d (dI t.count), .d (dI t.actual), .d (dI t.normal)]) R R (by kernel_rfl))<|za R R<|znr<|zp (Aa R R Bv)<|zp (Ab R R Ai R R)<|zp (Ba R R Ai)<|zp (As R R R)<|za R R<|zn<|zt<|z1 R R (R)
theorem Apr (t:Tp) (a b:Int) (h0:0≤a∧a≤100000) (h1:0≤b∧b≤100000):XC Tryz.prog 176 [.agg (Tp.c t), .pt [dI a], .pt [dI b]] (fun r=>r=dB (decide (a+b≤t.first))):=by
 exact Am Abi Tryz.func176 R R lb<|zr<|XL.step R (An 3 (l:= [.d (dI t.first), .d (dI t.count), .d (dI t.actual), .d (dI t.normal)]) R R (by kernel_rfl))<|za R R<|znr<|zp (Aa R R Bv)<|zp (Ab R R Ai R R)<|zp (Ba R R Ai)<|zp (Ba R R Ai)<|zp (Ak R R R (by omega) (by omega))<|zp (Gq R R R)<|za R R<|zn<|zt<|z1 R R (R)
theorem Apq (t:Tp):XC Tryz.prog 177 [.agg (Tp.c t)] (fun r=>r=dB true):=by
 exact Am Abh Tryz.func177 R R lb<|zr<|XL.step R (An 1 (l:= [.d (dI t.first), .d (dI t.count), .d (dI t.actual), .d (dI t.normal)]) R R (by kernel_rfl))<|za R R<|znr<|za R R<|zn<|zt<|z1 R R (R)
end Go.Proofs.YtaafemnkamfgnaaGreat
