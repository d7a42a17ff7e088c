/- Part 6 of what the statements need: lemmas and walks. -/
import Derived.Test.YtaafemnkamfgnaaGreatBl5
set_option linter.unusedVariables false
set_option linter.unusedSimpArgs false
set_option linter.unusedSectionVars false
set_option maxRecDepth 20000
set_option maxHeartbeats 8000000
namespace Go.Proofs.YtaafemnkamfgnaaGreat
open Go.RowKit
theorem Wg (t:Tp) (l:List Tp) (n:Int):hits (t::l) n=hits l n+(if t.has n then 1 else 0):=by
 unfold hits
 rw [List.filter_cons]
 by_cases h:t.has n<;>simp [h]
theorem Aly (l:List Tp) (n:Int):hits l n≤l.length:=List.length_filter_le _ _
theorem Alx (t:Tp) (s:List Tp) (n:Int) (hn:t.first≤n):hits (Cr t s) n=hits s n:=by
 induction s with
 |nil=>rfl
 |cons o r ih=>
  unfold Cr
  split
  ·rename_i h
   rw [ih,Wg,if_neg (fun k=>by unfold Tp.has at k;unfold Tp.e at h;omega)]
   rfl
  ·rfl
theorem Afy {q t:Tp} (h:¬0<J1 q t):q.first≤t.first:=by
 unfold J1 at h
 split at h
 ·split at h<;>omega
 ·omega
theorem Aff (n:Int) (l:List Tp):∀(p:Option Tp) (s L:List Tp),Ew n p s l=0→s.length≤3→(∀e,hits L e≤3)→(∀e,(∀q,p=some q→q.first≤e)→hits L e=hits s e)→∀e,hits (L++l) e≤3:=by
 induction l with
 |nil=>intro p s L _ _ h1 _ e;rw [List.append_nil];exact h1 e
 |cons t l ih=>
  intro p s L hz hs h1 h2 e
  rw [Ew] at hz
  split at hz
  ·omega
  ·split at hz
   ·omega
   ·rename_i hin hna
    split at hz
    ·omega
    ·rename_i hov
     have hp:∀q,p=some q→q.first≤t.first:=fun q hq=>by subst hq;exact Afy hna
     have h3:(t::Cr t s).length≤3:=by
      have h4:=Ak0 t s
      have h5:¬(Cr t s).length=3:=fun k=>hov (.inl k)
      rw [List.length_cons]
      omega
     have heq:∀e,t.first≤e→hits (L++ [t]) e=hits (t::Cr t s) e:=fun e he=>by
      rw [Ih,Wg,Alx t s e he,h2 e (fun q hq=>Int.le_trans (hp q hq) he)]
     have:=ih (some t) (t::Cr t s) (L++ [t]) hz h3 (fun e=> ?_) (fun e he=>heq e (he t rfl)) e
     ·rw [List.append_assoc] at this;exact this
     ·by_cases he:t.first≤e
      ·rw [heq e he];exact Nat.le_trans (Aly _ _) h3
      ·rw [Ih,if_neg (fun k=>he k.1)];exact h1 e
theorem Akn (n:Int) (l:List Tp):∀(p:Option Tp) (s:List Tp),Ew n p s l=0→∀t∈l,t.inR n:=by
 induction l with
 |nil=>intro p s _ t ht;cases ht
 |cons t l ih=>
  intro p s hz x hx
  rw [Ew] at hz
  split at hz
  ·omega
  ·rename_i hin
   split at hz
   ·omega
   ·split at hz
    ·omega
    ·rcases List.mem_cons.1 hx with e|e
     ·rw [e];exact Decidable.not_not.1 hin
     ·exact ih _ _ hz x e
structure Tups (l:List Tp) (n:Int):Prop where
 bd:0≤n∧n≤128
 len:l.length≤16
 inR:∀t∈l,t.inR n
 ok:∀t∈l,t.ok
 hits:∀e,hits l e≤3
theorem Uo {l:List Tp} {n:Int} (h:¬D6 l n≠0):Tups l n:=by
 have h0:D6 l n=0:=by omega
 unfold D6 at h0
 split at h0
 ·omega
 ·split at h0
  ·omega
  ·have hi:=Akn n l _ _ h0
   refine ⟨by omega,by omega,hi,fun t ht=>(hi t ht).ok (by omega),fun e=> ?_⟩
   have:=Aff n l none [] [] h0 (by decide) (fun e=>Nat.zero_le _) (fun e _=>rfl) e
   rwa [List.nil_append] at this
def C1 (l:List Tp):Nat→List Int→List Int
 |_, []=> []
 |i,w::r=>D7 l i w::C1 l (i+1) r
def Iy (l:List Tp):Nat→List Int→Int
 |_, []=>0
 |i,w::r=>if D2 l i w≠0 then D2 l i w else Iy l (i+1) r
def C8 (l:List Tp) (ws:List Int):Int:=if D6 l ws.length≠0 then D6 l ws.length else Iy l 0 ws
def Hb (l:List Tp) (ws:List Int):List Int:=if C8 l ws=0 then C1 l 0 ws else []
theorem Af7 (l:List Tp) (a:List Int) (w:Int):∀i,C1 l i (a++ [w])=C1 l i a++ [D7 l ((i+a.length:Nat):Int) w]:=by
 induction a with
 |nil=>intro i;rfl
 |cons x a ih=>
  intro i
  rw [List.cons_append,C1,ih (i+1),C1,List.cons_append,List.length_cons,show i+1+a.length=i+(a.length+1) by omega]
theorem Ace {l:List Tp} {ws:List Int} {k:Nat} {w:Int} (h:ws[k]? =some w):C1 l 0 (ws.take (k+1))=C1 l 0 (ws.take k)++ [D7 l (k:Int) w]:=by
 have hk:=(List.getElem?_eq_some_iff.1 h).1
 rw [B1 h,Af7,List.length_take,Nat.zero_add,Nat.min_eq_left (by omega)]
theorem Iq (l:List Tp) (ws:List Int):∀i,(C1 l i ws).length=ws.length:=by
 induction ws with
 |nil=>intro i;rfl
 |cons w r ih=>intro i;rw [C1,List.length_cons,ih,List.length_cons]
theorem Aht {l:List Tp} {ws:List Int} {k:Nat} {w:Int} (h:ws[k]? =some w) (hx:¬D2 l k w≠0):Iy l k (ws.drop k)=Iy l (k+1) (ws.drop (k+1)):=by rw [By h,Iy,if_neg hx]
theorem X1 {l:List Tp} {ws:List Int} {k:Nat} {w:Int} (h:ws[k]? =some w) (hx:D2 l k w≠0):Iy l k (ws.drop k)=D2 l k w:=by rw [By h,Iy,if_pos hx]
theorem Ahf {l:List Tp} {ws:List Int} (h:D6 l ws.length≠0): []=Hb l ws∧D6 l ws.length=C8 l ws:=by
 have e:C8 l ws=D6 l ws.length:=by rw [C8,if_pos h]
 exact ⟨by rw [Hb,e,if_neg h],e.symm⟩
theorem Ahe {l:List Tp} {ws:List Int} (h:¬D6 l ws.length≠0) {e:Int} (he:e=Iy l 0 ws) (hn:e≠0): []=Hb l ws∧e=C8 l ws:=by
 have e2:C8 l ws=e:=by rw [C8,if_neg h,he]
 exact ⟨by rw [Hb,e2,if_neg hn],e2.symm⟩
theorem Ahd {l:List Tp} {ws:List Int} (h:¬D6 l ws.length≠0) (he:Iy l 0 ws=0):C1 l 0 ws=Hb l ws∧0=C8 l ws:=by
 have e2:C8 l ws=0:=by rw [C8,if_neg h,he]
 exact ⟨by rw [Hb,e2,if_pos rfl],e2.symm⟩
theorem Rt (l:List Tp) (ws:List Int):XC Tryz.prog 169 [.sl 4 (l.map Tp.c), .sl 1 (Cg ws)] (fun r=>r= .tup [.sl 1 (Cg (Hb l ws)),dI (C8 l ws)]):=by
 refine Aj Aam Tryz.func169 R R lb<|zr<|za R R<|za R R<|zn<|zs<|zr<|zm R R<|zm R R<|XL.len R R R Tryz.underlying45 fun hl14=>XL.call1 R R (Vh _ _) R<|za R R<|znr<|zm R R<|?_
 refine zp (As R R R)<|zn<|?_
 refine zd R (fun c17=> ?_) (fun c17=> ?_)
 refine zr<|zm R R<|za R R<|za R R<|zn<|zt<|?_
 exact Az R (RV.nil (sz:=1) R R) (RV.tmp R R) (r2 (rSl (Ahf c17).1) (rI (Ahf c17).2))
 refine zi<|zs<|?_
 have hT:=Uo c17
 have hbd:=hT.bd
 refine Af (by kernel_rfl)<|zm R R<|XL.len R R R Tryz.underlying45 fun hl20=>XL.step R (N1 21 (m:=0) (z:=(.int .i64 0)) (zs:= [dI 0]) (sz:=1) (bytes:=8) R R R Tryz.underlying45 (by kernel_rfl) (by kernel_rfl) (by kernel_rfl) (by decide) (by decide) (by omega) (by unfold maxLen;omega) (by omega))<|zp (Ay R (by conv=>lhs;whnf))<|?_
 refine zn<|zs<|zr<|zm R R<|XL.len R R R Tryz.underlying45 fun hl23=>zm R R<|zn<|Ah<|?_
 refine A6 (α:=Nat) (fun k=>k≤ws.length∧Iy l k (ws.drop k)=Iy l 0 ws) (fun k=>mkF [(0, .d (.sl 4 (l.map Tp.c))),(7, .own 21),(22, .d (.sl 1 (Cg ws))),(23, .d (dI ws.length)),(24, .d (dI k))]) (fun k=>mkH [(21, .row 3 1 ((C1 l 0 (ws.take k)).map iv))]) (fun k=>ws.length - k) (0) (⟨Nat.zero_le _,by rw [List.drop_zero]⟩) ?_ ?_ ?_
 exact fz ⟨sr,sr,sr,sr,sr,trivial⟩
 exact gz ⟨R,trivial⟩
 intro k hk0
 obtain ⟨hk,hgo⟩:=hk0
 refine zr<|zp (Ar R R R)<|zn<|zs<|?_
 refine zd R (fun c25=> ?_) (fun c25=> ?_)
 have hk0a:k<ws.length:=by omega
 obtain ⟨x0,hx0⟩:=A3 hk0a
 have hok:=hT.ok
 have hh:=hT.hits k
 have hll:(C1 l 0 (ws.take k)).length=k:=by rw [Iq,List.length_take];omega
 refine zi<|zs<|Ah<|zr<|zm R R<|zp (At R R R Dt hx0)<|zp (Bb R R Ai)<|za R R<|za R R<|znr<|zm R R<|zm R R<|zm R R<|XL.call1 R R (Xz _ _ _ (by assumption) (by assumption) (by omega) (by omega)) R<|?_
 refine zm R R<|zp (An R R R)<|zp (An R R R)<|za R R<|za R R<|zn<|zs<|zr<|zm R R<|zp (As R R R)<|zn<|?_
 refine zd R (fun c37=> ?_) (fun c37=> ?_)
 refine zr<|zm R R<|za R R<|za R R<|zn<|zt<|?_
 exact Az R (RV.nil (sz:=1) R R) (RV.tmp R R) (r2 (rSl (Ahe c17 (by rw [←hgo,X1 hx0 c37]) c37).1) (rI (Ahe c17 (by rw [←hgo,X1 hx0 c37]) c37).2))
 refine zi<|Af (by kernel_rfl)<|zp (Aw R (by conv=>lhs;whnf))<|?_
 refine zm R R<|XL.step R (Bq 41 R Tryz.underlying45 Dv Hn R R (by omega) (by omega))<|XL.step R (Bg R P9 (.own R) (Src.own R) (by unfold maxLen;simp;omega) (by simp;omega))<|zp (Ay R (by conv=>lhs;whnf))<|?_
 refine zn<|Af (by kernel_rfl)<|zp (Am R R R (by omega) (by omega))<|zm R R<|zn<|?_
 exact Ap (k+1) (⟨by omega,by rw [←Aht hx0 c37];exact hgo⟩) (by omega) (fz ⟨sr,sr,sr,sr,sr,trivial⟩) (gz ⟨H6 rfl (Ace hx0),trivial⟩)
 have hk0b:k=ws.length:=by omega
 have hz:Iy l 0 ws=0:=by rw [←hgo,hk0b,List.drop_length];rfl
 have ht:ws.take k=ws:=by rw [hk0b,List.take_length]
 refine A0<|zr<|zp (Aw R (by conv=>lhs;whnf))<|?_
 refine zp (Ay R (by conv=>lhs;whnf))<|?_
 refine za R R<|zn<|zt<|B6 (i:=21) R<|?_
 exact Az R (RV.tmp R R) (RV.tmp R R) (r2 (rSl (by rw [ht];exact (Ahd c17 hz).1)) (rI (Ahd c17 hz).2))
abbrev M5 (l:List Tp) (i:Nat):List Tp:=(l.take l.length).drop (i+1)
def F8 (l:List Tp):Nat→List Int→Int→Option Int
 |_, [],acc=>some acc
 |i,w::r,acc=>if D2 l i w≠0 then none else F8 l (i+1) r (acc+D7 l i w)
def He (t:Tp) (ws:List Int):List Int:=(ws.drop t.first.toNat).take t.count.toNat
def S0 (a s:Int):Option Int:=((List.range 10).find? fun j=>decide (s=a*(3870720 / 2 ^ j))).map fun j=>(j:Int) - 1
def F7 (l:List Tp) (t:Tp) (ws:List Int):Option Int:=(F8 l t.first.toNat (He t ws) 0).bind (S0 t.actual)
def Tj (l:List Tp) (i:Nat) (ws:List Int):Option Int:=(l[i]?).bind fun t=>F7 (M5 l i) t ws
theorem L8 {l:List Tp} {i:Nat} {t:Tp} (h:l[i]? =some t) (ws:List Int):Tj l i ws=F7 (M5 l i) t ws:=by rw [Tj,h];rfl
theorem Aox {t:Tp} {ws:List Int} {j:Nat} (hj:j<t.count.toNat):(He t ws)[j]? =ws[t.first.toNat+j]? :=by
 rw [He,List.getElem?_take,if_pos hj,List.getElem?_drop]
theorem Afd {l:List Tp} {i k:Nat} {seg:List Int} {w acc:Int} (h:seg[k]? =some w) (hx:¬D2 l i w≠0):F8 l i (seg.drop k) acc=F8 l (i+1) (seg.drop (k+1)) (acc+D7 l i w):=by rw [By h,F8,if_neg hx]
theorem Afc {l:List Tp} {i k:Nat} {seg:List Int} {w acc:Int} (h:seg[k]? =some w) (hx:D2 l i w≠0):F8 l i (seg.drop k) acc=none:=by rw [By h,F8,if_pos hx]
theorem Ag8 {l:List Tp} {i k:Nat} {seg:List Int} {acc:Int} (h:seg.length≤k):F8 l i (seg.drop k) acc=some acc:=by rw [List.drop_eq_nil_of_le h,F8]
theorem Apz {p:Nat→Bool} {m k:Nat} (hk:k<m) (hp:p k=true) (h:∀j,j<k→p j=false):(List.range m).find? p=some k:=by
 rw [List.find?_range_eq_some]
 exact ⟨hp,List.mem_range.2 hk,fun j hj=>by simp [h j hj]⟩
theorem Aph {a s:Int} {k:Nat} (hk:k<10) (hp:s=a*(3870720 / 2 ^ k)) (h:∀j,j<k→¬s=a*(3870720 / 2 ^ j)):S0 a s=some ((k:Int) - 1):=by
 rw [S0,Apz hk (decide_eq_true hp) (fun j hj=>decide_eq_false (h j hj))];rfl
theorem Ais {a s:Int} (h:∀j,j<10→¬s=a*(3870720 / 2 ^ j)):S0 a s=none:=by
 rw [S0,List.find?_eq_none.2 (fun j hj=>by simp [h j (List.mem_range.1 hj)])];rfl
theorem Tk {l:List Tp} {t:Tp} {ws:List Int} {s:Int} (h:F8 l t.first.toNat (He t ws) 0=some s):F7 l t ws=S0 t.actual s:=by rw [F7,h];rfl
theorem Afb {l:List Tp} {t:Tp} {ws:List Int} (h:F8 l t.first.toNat (He t ws) 0=none):F7 l t ws=none:=by rw [F7,h];rfl
theorem Yc {o:Option Int} (h:o=none):D.tup [dI 0,dB false]= .tup [dI (o.getD 0),dB o.isSome]:=by rw [h];rfl
theorem Alc {o:Option Int} {x:Int} (h:o=some x):D.tup [dI x,dB true]= .tup [dI (o.getD 0),dB o.isSome]:=by rw [h];rfl
theorem Aq2 (k:Nat):0≤(3870720:Int) / 2 ^ k∧(3870720:Int) / 2 ^ k≤3870720:=by
 have h:(0:Int)<2 ^ k:=Int.pow_pos (by omega)
 exact ⟨Int.ediv_nonneg (by omega) (by omega),Int.ediv_le_self _ (by omega)⟩
theorem Aog (l:List Tp) (i:Nat) (t:Tp) (ws:List Int) (ht:l[i]? =some t) (hT:Tups l ws.length):XC Tryz.prog 192 [.sl 4 (l.map Tp.c), .v (.int .i64 i), .sl 1 (Cg ws)] (fun r=>r= .tup [dI ((F7 (M5 l i) t ws).getD 0),dB (F7 (M5 l i) t ws).isSome]):=by
 have hin:=hT.inR t (List.mem_of_getElem? ht)
 have hok:=hT.ok t (List.mem_of_getElem? ht)
 have hbd:=hT.bd
 have hlen:=hT.len
 have hil:=(List.getElem?_eq_some_iff.1 ht).1
 have hin2:=hin
 simp only [Tp.inR] at hin2
 have hte:t.e=t.first+t.count:=rfl
 obtain ⟨f,hf⟩:∃f:Nat,t.first=f:=⟨t.first.toNat,by omega⟩
 have hf2:t.first.toNat=f:=by omega
 have hsl:(He t ws).length=t.count.toNat:=by rw [He,List.length_take,List.length_drop];omega
 have hoks:∀x∈(l.take l.length).drop (i+1),x.ok:=Ao7 (Aeb hT.ok _) _
 have hhs:∀e,hits ((l.take l.length).drop (i+1)) e≤3:=fun e=>Nat.le_trans (Ajd _ _ e) (Nat.le_trans (P2 _ _ e) (hT.hits e))
 refine Aj Z1 Tryz.func192 R R lb<|zr<|za R R<|za R R<|znr<|zm R R<|zm R R<|zp (At R R R Fk (ht))<|zp (Ae (s':= .d (.agg (Tp.c t))) (A9 R R B5 lb) (by kernel_rfl))<|XL.step R (Al 8 (l:= [.d (dI 0), .d (dI 0), .d (dI 0), .d (dI 0)]) R Dx (by kernel_rfl))<|?_
 refine XL.step R (Ag (l':= [.d (dI t.first), .d (dI t.count), .d (dI t.actual), .d (dI t.normal)]) R R R R Fa R lb (by kernel_rfl))<|znr<|za R R<|zn<|zs<|zr<|zp (Ac R R Br)<|zp (Ab R R Ai R R)<|za R R<|zn<|Ah<|?_
 refine A6 (α:=Nat × Int) (fun p=>p.1≤t.count.toNat∧F8 ((l.take l.length).drop (i+1)) (f+p.1) ((He t ws).drop p.1) p.2=F8 ((l.take l.length).drop (i+1)) f (He t ws) 0∧0≤p.2∧p.2≤(p.1:Int)*253671505920) (fun p=>mkF [(0, .d (.sl 4 (l.map Tp.c))),(1, .d (dI i)),(2, .d (.sl 1 (Cg ws))),(8, .ptr 8 0 0),(9, .d (dI p.2)),(10, .d (dI ((f+p.1:Nat):Int)))]) (fun p=>mkH [(8, .box ((Tp.c t).map S.d))]) (fun p=>t.count.toNat - p.1) ((0,0)) (⟨Nat.zero_le _,by rw [List.drop_zero];rfl,Int.le_refl _,by simp⟩) ?_ ?_ ?_
 exact fz ⟨sr,sr,sr,sr,sr, .same (sI (by rw [hf];rfl)),trivial⟩
 exact gz ⟨R,trivial⟩
 intro p hk0
 obtain ⟨hk,hgo,hs0,hs1⟩:=hk0
 refine zs<|zr<|zm R R<|zp (Ae (s':= .d (.agg (Tp.c t))) (Aa (Ad R R B5 R lb)) (by kernel_rfl))<|XL.call1 R R (G2 _ (by assumption)) R<|zp (Ar R R R)<|zn<|?_
 refine zd R (fun c23=> ?_) (fun c23=> ?_)
 have hkc:p.1<t.count.toNat:=by omega
 obtain ⟨w,hw⟩:∃w,ws[f+p.1]? =some w:=A3 (by omega)
 have hsw:(He t ws)[p.1]? =some w:=by rw [Aox hkc,hf2];exact hw
 have hh:=hhs ((f+p.1:Nat):Int)
 have hsb:=X0 (n:=((f+p.1:Nat):Int)) (w:=w) hoks hh
 refine zi<|zs<|Ah<|zs<|Be [] (by kernel_rfl) (by kernel_rfl) (by kernel_rfl) (by decide)<|ym R R<|ym R R<|yp (Am R R R (by omega) (by omega))<|yp (Ks R R Fk (Bd.ati (a:=i+1) R (by omega)) Bd.no (by omega) (by omega))<|ym R R<|ym R R<|ym R R<|yp (At R R R Dt (hw))<|yp (Bb R R Ai)<|?_
 refine ChK.cons R (CStep.call R (Xz _ _ _ (by assumption) (by assumption) (by omega) (by omega)) R)<|ym R R<|yp (An R R R)<|yp (An R R R)<|ya R R<|ya R R<|?_
 refine ChK.nil ⟨by kernel_rfl, ?_⟩
 refine zs<|zr<|zm R R<|zp (As R R R)<|zn<|?_
 refine zd R (fun c40=> ?_) (fun c40=> ?_)
 refine zr<|za R R<|za R R<|zn<|zt<|?_
 exact Az R (RV.tmp R R) (RV.tmp R R) (Yc (Afb (by rw [hf2, ←hgo];exact Afc hsw c40)))
 refine zi<|Af (by kernel_rfl)<|zm R R<|zm R R<|zp (Am R R R (by omega) (by omega))<|za R R<|zn<|Af (by kernel_rfl)<|zm R R<|zp (Am R R R (by omega) (by omega))<|za R R<|zn<|?_
 exact Ap ((p.1+1,p.2+D7 ((l.take l.length).drop (i+1)) ((f+p.1:Nat):Int) w)) (⟨by simp only;omega,(Afd hsw c40).symm.trans hgo,by simp only;omega,by simp only;omega⟩) (by simp only;omega) (fz ⟨sr,sr,sr,sr,sr,sr,trivial⟩) (gz ⟨rfl,trivial⟩)
 have hu:F8 ((l.take l.length).drop (i+1)) t.first.toNat (He t ws) 0=some p.2:=by rw [hf2, ←hgo];exact Ag8 (by omega)
 refine A0<|zs<|zr<|za R R<|zn<|Ah<|?_
 refine A6 (α:=Nat) (fun k=>k≤10∧∀j,j<k→¬p.2=t.actual*(3870720 / 2 ^ j)) (fun k=>mkF [(8, .ptr 8 0 0),(9, .d (dI p.2)),(13, .d (dI ((k:Int) - 1)))]) (fun k=>mkH [(8, .box ((Tp.c t).map S.d))]) (fun k=>10 - k) (0) (⟨Nat.zero_le _,fun j hj=>absurd hj (Nat.not_lt_zero _)⟩) ?_ ?_ ?_
 exact fz ⟨sr,sr,sr,trivial⟩
 exact gz ⟨R,trivial⟩
 intro k hk2
 obtain ⟨hk,hno⟩:=hk2
 have hkk:((k:Int) - 1+1).toNat=k:=by omega
 have hsh:=Aq2 k
 refine zs<|zr<|zm R R<|zp (Jy R R R)<|zn<|?_
 refine zd R (fun c45=> ?_) (fun c45=> ?_)
 have hml1:0≤t.actual*(3870720 / 2 ^ k):=Int.mul_nonneg (by omega) hsh.1
 have hml2:t.actual*(3870720 / 2 ^ k)≤32*3870720:=Int.mul_le_mul (by omega) hsh.2 hsh.1 (by omega)
 refine zi<|zs<|Ah<|zs<|Be [] (by kernel_rfl) (by kernel_rfl) (by kernel_rfl) (by decide)<|ym R R<|yp (Ac R R Nh)<|yp (Ab R R Ai R R)<|ym R R<|yp (Am R R R (by omega) (by omega))<|yp (Ank R R R (by omega) (by omega))<|yp (Ll R R R (by rw [hkk];omega) (by rw [hkk];omega))<|yp (A8 R R R)<|?_
 refine ChK.nil ⟨by kernel_rfl, ?_⟩
 refine zd R (fun c55=> ?_) (fun c55=> ?_)
 refine zr<|zm R R<|za R R<|za R R<|zn<|zt<|?_
 exact Az R (RV.tmp R R) (RV.tmp R R) (Alc (by rw [Tk hu];exact Aph (by omega) (by rw [hkk] at c55;exact c55) hno))
 refine zi<|Af (by kernel_rfl)<|zm R R<|zp (Am R R R (by omega) (by omega))<|za R R<|zn<|?_
 exact Ap (k+1) (⟨by omega,fun j hj=>by by_cases e:j=k;(· subst e;rw [hkk] at c55;exact c55);(· exact hno j (by omega))⟩) (by omega) (fz ⟨sr,sr, .same (sI (by omega)),trivial⟩) (gz ⟨rfl,trivial⟩)
 have hke:k=10:=by omega
 have hnone:S0 t.actual p.2=none:=Ais (fun j hj=>hno j (by omega))
 refine A0<|zr<|za R R<|za R R<|zn<|zt<|?_
 exact Az R (RV.tmp R R) (RV.tmp R R) (Yc (by rw [Tk hu];exact hnone))
theorem M4 {l:List Tp} {ws:List Int} (h:¬C8 l ws≠0):Tups l ws.length:=by
 unfold C8 at h
 split at h
 ·rename_i h2;exact absurd h2 h
 ·rename_i h2;exact Uo h2
def Lx (l:List Tp) (ws:List Int):Prop:=∀j,j<l.length→(Tj l j ws).isSome=true
instance (l:List Tp) (ws:List Int):Decidable (Lx l ws):=by unfold Lx;exact inferInstance
def E9 (l:List Tp) (ws:List Int):Int:=if C8 l ws≠0 then C8 l ws else if Lx l ws then 0 else 21
def M3 (l:List Tp) (ws:List Int) (k:Nat):List Int:=(List.range k).map fun j=>(Tj l j ws).getD 0
def L9 (l:List Tp) (ws:List Int):List Int:=if E9 l ws=0 then M3 l ws l.length else []
theorem Afe {l:List Tp} {ws:List Int} {k:Nat} {t:Tp} (h:l[k]? =some t):M3 l ws (k+1)=M3 l ws k++ [(F7 (M5 l k) t ws).getD 0]:=by
 rw [M3,List.range_succ,List.map_append,List.map_singleton,L8 h];rfl
theorem Ag9 (l:List Tp) (ws:List Int) (k:Nat):(M3 l ws k).length=k:=by rw [M3,List.length_map,List.length_range]
theorem Aqu {l:List Tp} {ws:List Int} (h:C8 l ws≠0): []=L9 l ws∧C8 l ws=E9 l ws:=by
 have e:E9 l ws=C8 l ws:=by rw [E9,if_pos h]
 exact ⟨by rw [L9,e,if_neg h],e.symm⟩
theorem Aqt {l:List Tp} {ws:List Int} (h:¬C8 l ws≠0) {k:Nat} {t:Tp} (ht:l[k]? =some t) (hn:(!(F7 (M5 l k) t ws).isSome)=true): []=L9 l ws∧21=E9 l ws:=by
 have e:E9 l ws=21:=by
  rw [E9,if_neg h,if_neg fun ha=> ?_]
  have:=ha k (List.getElem?_eq_some_iff.1 ht).1
  rw [L8 ht] at this
  rw [this] at hn
  cases hn
 exact ⟨by rw [L9,e,if_neg (by decide)],e.symm⟩
theorem Aqs {l:List Tp} {ws:List Int} (h:¬C8 l ws≠0) (ha:Lx l ws):M3 l ws l.length=L9 l ws∧0=E9 l ws:=by
 have e:E9 l ws=0:=by rw [E9,if_neg h,if_pos ha]
 exact ⟨by rw [L9,e,if_pos rfl],e.symm⟩
theorem Akm (l:List Tp) (ws:List Int):XC Tryz.prog 170 [.sl 4 (l.map Tp.c), .sl 1 (Cg ws)] (fun r=>r= .tup [.sl 1 (Cg (L9 l ws)),dI (E9 l ws)]):=by
 refine Aj Aal Tryz.func170 R R lb<|zr<|za R R<|za R R<|zn<|zs<|zr<|zm R R<|zm R R<|XL.call1 R R (Rt _ _) R<|zm R R<|zp (An R R R)<|zp (An R R R)<|za R R<|?_
 refine za R R<|znr<|zm R R<|zp (As R R R)<|zn<|?_
 refine zd R (fun c19=> ?_) (fun c19=> ?_)
 refine zr<|zm R R<|za R R<|za R R<|zn<|zt<|?_
 exact Az R (RV.nil (sz:=1) R R) (RV.tmp R R) (r2 (rSl (Aqu c19).1) (rI (Aqu c19).2))
 refine zi<|zs<|?_
 have hT:=M4 c19
 have hbd:=hT.bd
 have hlen:=hT.len
 refine Af (by kernel_rfl)<|zm R R<|XL.len R R R Tryz.underlying80 fun hl22=>XL.step R (N1 23 (m:=0) (z:=(.int .i64 0)) (zs:= [dI 0]) (sz:=1) (bytes:=8) R R R Tryz.underlying45 (by kernel_rfl) (by kernel_rfl) (by kernel_rfl) (by decide) (by decide) (by omega) (by unfold maxLen;omega) (by omega))<|zp (Ay R (by conv=>lhs;whnf))<|?_
 refine zn<|zs<|zr<|zm R R<|XL.len R R R Tryz.underlying80 fun hl25=>zm R R<|zn<|Ah<|?_
 refine A6 (α:=Nat) (fun k=>k≤l.length∧∀j,j<k→(Tj l j ws).isSome=true) (fun k=>mkF [(0, .d (.sl 4 (l.map Tp.c))),(1, .d (.sl 1 (Cg ws))),(8, .own 23),(25, .d (dI l.length)),(26, .d (dI k))]) (fun k=>mkH [(23, .row 3 1 ((M3 l ws k).map iv))]) (fun k=>l.length - k) (0) (⟨Nat.zero_le _,fun j hj=>absurd hj (Nat.not_lt_zero _)⟩) ?_ ?_ ?_
 exact fz ⟨sr,sr,sr,sr,sr,trivial⟩
 exact gz ⟨R,trivial⟩
 intro k hk0
 obtain ⟨hk,hall⟩:=hk0
 refine zr<|zp (Ar R R R)<|zn<|zs<|?_
 refine zd R (fun c27=> ?_) (fun c27=> ?_)
 have hk0a:k<l.length:=by omega
 obtain ⟨x0,hx0⟩:=A3 hk0a
 have hll:=Ag9 l ws k
 refine zi<|zs<|Ah<|zr<|zm R R<|za R R<|znr<|zm R R<|zm R R<|zm R R<|XL.call1 R R (Aog _ _ _ _ hx0 hT) R<|zm R R<|zp (An R R R)<|zp (An R R R)<|?_
 refine za R R<|za R R<|zn<|zs<|zr<|zm R R<|zp (Cs R R)<|zn<|?_
 refine Fd (by kernel_rfl) R (fun c37=> ?_) (fun c37=> ?_)
 refine zr<|za R R<|za R R<|zn<|zt<|?_
 exact Az R (RV.nil (sz:=1) R R) (RV.tmp R R) (r2 (rSl (Aqt c19 hx0 c37).1) (rI (Aqt c19 hx0 c37).2))
 refine zi<|Af (by kernel_rfl)<|zp (Aw R (by conv=>lhs;whnf))<|?_
 refine zm R R<|XL.step R (Bq 40 R Tryz.underlying45 Dv Hn R R (by omega) (by omega))<|XL.step R (Bg R P9 (.own R) (Src.own R) (by unfold maxLen;simp;omega) (by simp;omega))<|zp (Ay R (by conv=>lhs;whnf))<|?_
 refine zn<|Af (by kernel_rfl)<|zp (Am R R R (by omega) (by omega))<|zm R R<|zn<|?_
 exact Ap (k+1) (⟨by omega,fun j hj=>by by_cases e:j=k;(· subst e;rw [L8 hx0];exact (by simpa using c37));(· exact hall j (by omega))⟩) (by omega) (fz ⟨sr,sr,sr,sr,sr,trivial⟩) (gz ⟨H6 rfl (Afe hx0),trivial⟩)
 have hk0b:k=l.length:=by omega
 have ha:Lx l ws:=fun j hj=>hall j (by omega)
 refine A0<|zr<|zp (Aw R (by conv=>lhs;whnf))<|?_
 refine zp (Ay R (by conv=>lhs;whnf))<|?_
 refine za R R<|zn<|zt<|B6 (i:=23) R<|?_
 exact Az R (RV.tmp R R) (RV.tmp R R) (r2 (rSl (by rw [hk0b];exact (Aqs c19 ha).1)) (rI (Aqs c19 ha).2))
def Hr (l:List Tp) (n:Int):Int:=if D6 l 128≠0 then 0 else (hits l n:Int)
theorem Alw {l:List Tp} {k:Nat} {t:Tp} {n:Int} (h:l[k]? =some t) (ht:t.has n):hits (l.take (k+1)) n=hits (l.take k) n+1:=by rw [B1 h,Ih,if_pos ht]
theorem App {l:List Tp} {k:Nat} {t:Tp} {n:Int} (h:l[k]? =some t) (ht:¬t.has n):hits (l.take (k+1)) n=hits (l.take k) n:=by rw [B1 h,Ih,if_neg ht];rfl
theorem Amt (l:List Tp) (n:Int) (h0:0≤n) (h1:n≤128):XC Tryz.prog 152 [.sl 4 (l.map Tp.c), .v (.int .i64 n)] (fun r=>r=dI (Hr l n)):=by
 refine Aj Aa3 Tryz.func152 R R lb<|zr<|za R R<|zn<|zs<|zr<|zm R R<|XL.call1 R R (Vh _ _) R<|zp (As R R R)<|zn<|?_
 refine zd R (fun c10=> ?_) (fun c10=> ?_)
 exact zr<|za R R<|zn<|zt<|z1 R R (rI (by rw [Hr,if_pos c10]))
 refine zi<|zs<|?_
 have hT:=Uo c10
 refine Af (by kernel_rfl)<|za R R<|zn<|zs<|zr<|zm R R<|XL.len R R R Tryz.underlying80 fun hl12=>zm R R<|zn<|Ah<|?_
 refine A6 (α:=Nat) (fun k=>k≤l.length) (fun k=>mkF [(1, .d (dI n)),(4, .d (dI 0)),(5, .d (dI (hits (l.take k) n:Int))),(11, .d (.sl 4 (l.map Tp.c))),(12, .d (dI l.length)),(13, .d (dI k))]) (fun k=>mkH []) (fun k=>l.length - k) (0) (Nat.zero_le _) ?_ ?_ ?_
 exact fz ⟨sr,sr,sr,sr,sr,sr,trivial⟩
 exact HSub.nil
 intro k hk0
 refine zr<|zp (Ar R R R)<|zn<|zs<|?_
 refine zd R (fun c14=> ?_) (fun c14=> ?_)
 have hk0a:k<l.length:=by omega
 obtain ⟨x0,hx0⟩:=A3 hk0a
 have hok:=hT.ok x0 (List.mem_of_getElem? hx0)
 have hle:=Nat.le_trans (P2 l k n) (hT.hits n)
 refine zi<|zs<|Ah<|zr<|zp (At R R R Fk hx0)<|zp (Ae (s':= .d (.agg (Tp.c x0))) (A9 R R B5 lb) (by kernel_rfl))<|XL.step R (Al 7 (l:= [.d (dI 0), .d (dI 0), .d (dI 0), .d (dI 0)]) R Dx (by kernel_rfl))<|XL.step R (Ag (l':= [.d (dI x0.first), .d (dI x0.count), .d (dI x0.actual), .d (dI x0.normal)]) R R R R Fa R lb (by kernel_rfl))<|znr<|?_
 refine zp (Ae (s':= .d (.agg (Tp.c x0))) (Aa (Ad R R B5 R lb)) (by kernel_rfl))<|zm R R<|XL.call1 R R (R0 _ _ (by assumption) (by omega) (by omega)) R<|zn<|?_
 refine zd R (fun c19=> ?_) (fun c19=> ?_)
 refine Af (by kernel_rfl)<|zm R R<|zp (Am R R R (by omega) (by omega))<|za R R<|zn<|Af (by kernel_rfl)<|zp (Am R R R (by omega) (by omega))<|zm R R<|zn<|?_
 exact Ap (k+1) (by omega) (by omega) (fz ⟨sr,sr, .same (sI (by rw [Alw hx0 c19];rfl)),sr,sr,sr,trivial⟩) (HSub.nil)
 refine zi<|Af (by kernel_rfl)<|zp (Am R R R (by omega) (by omega))<|zm R R<|zn<|?_
 exact Ap (k+1) (by omega) (by omega) (fz ⟨sr,sr, .same (sI (by rw [App hx0 c19])),sr,sr,sr,trivial⟩) (HSub.nil)
 have hk0b:k=l.length:=by omega
 have ht:l.take k=l:=by rw [hk0b,List.take_length]
 exact A0<|zr<|zm R R<|za R R<|zn<|zt<|z1 R R (rI (by rw [Hr,if_neg c10,ht]))
end Go.Proofs.YtaafemnkamfgnaaGreat
namespace Go.Proofs.YtaafemnkamfgnaaGreat
open Go.RowKit
def tot (l:List Int):Int:=l.foldl (· + ·) 0
theorem Od (l:List Int) (x:Int):tot (l++ [x])=tot l+x:=by unfold tot;rw [List.foldl_append];rfl
theorem Sa {l:List Int} {k:Nat} {x:Int} (h:l[k]? =some x):tot (l.take (k+1))=tot (l.take k)+x:=by rw [B1 h,Od]
structure Nums (l:List Int):Prop where
 len:l.length≤128
 bd:∀x∈l,0≤x∧x≤253671505920
theorem Aok {l:List Int}:(∀x∈l,0≤x∧x≤253671505920)→0≤tot l∧tot l≤(l.length:Int)*253671505920:=by
 refine Sc (p:=fun l=>(∀x∈l,0≤x∧x≤253671505920)→0≤tot l∧tot l≤(l.length:Int)*253671505920) (fun _=>by simp [tot]) (fun l x ih h=> ?_) l
 have h1:=ih fun y hy=>h y (List.mem_append_left _ hy)
 have h2:=h x (List.mem_append_right _ (List.mem_singleton.2 rfl))
 rw [Od,List.length_append,List.length_singleton,Int.natCast_add,Int.add_mul]
 omega
theorem Nums.tot {l:List Int} (h:Nums l):0≤Go.Proofs.YtaafemnkamfgnaaGreat.tot l∧Go.Proofs.YtaafemnkamfgnaaGreat.tot l≤32469952757760:=by
 have:=Aok h.bd
 have:=h.len
 omega
theorem Nums.take {l:List Int} (h:Nums l) (k:Nat):Nums (l.take k):=⟨Nat.le_trans (List.length_take_le' _ _) h.len,fun x hx=>h.bd x (List.mem_of_mem_take hx)⟩
def Evs (l:List Ev):Prop:=∀e∈l,e.art≤9223372036854775807
def wrS (l:List Ev):List Int:=l.map Ev.len
theorem Ako (l:List Int) (h:Nums l):XC Tryz.prog 116 [.sl 1 (Cg l)] (fun r=>r=dI (tot l)):=by
 refine Aj Abl Tryz.func116 R R lb<|zr<|za R R<|znr<|za R R<|zn<|zs<|zr<|zm R R<|XL.len R R R Tryz.underlying45 fun hl7=>zm R R<|zn<|Ah<|?_
 refine A6 (α:=Nat) (fun k=>k≤l.length) (fun k=>mkF [(2, .d (dI 0)),(3, .d (dI (tot (l.take k)))),(6, .d (.sl 1 (Cg l))),(7, .d (dI l.length)),(8, .d (dI k))]) (fun k=>mkH []) (fun k=>l.length - k) (0) (Nat.zero_le _) ?_ ?_ ?_
 exact fz ⟨sr,sr,sr,sr,sr,trivial⟩
 exact HSub.nil
 intro k hk0
 refine zr<|zp (Ar R R R)<|zn<|zs<|?_
 refine zd R (fun c9=> ?_) (fun c9=> ?_)
 have hk0a:k<l.length:=by omega
 obtain ⟨x0,hx0⟩:=A3 hk0a
 have h1:=(h.take k).tot
 have h2:=h.bd x0 (List.mem_of_getElem? hx0)
 refine zi<|zs<|Ah<|zr<|zp (At R R R Dt hx0)<|zp (Bb R R Ai)<|za R R<|zng<|zm R R<|zm R R<|zp (Am R R R (by omega) (by omega))<|za R R<|zn<|Af (by kernel_rfl)<|?_
 refine zp (Am R R R (by omega) (by omega))<|zm R R<|zn<|?_
 exact Ap (k+1) (by omega) (by omega) (fz ⟨sr, .same (sI (by rw [Sa hx0])),sr,sr,sr,trivial⟩) (HSub.nil)
 have hk0b:k=l.length:=by omega
 have ht:l.take k=l:=by rw [hk0b,List.take_length]
 exact A0<|zr<|zm R R<|za R R<|zn<|zt<|z1 R R (rI (by rw [ht]))
def J3 (l:List Int) (k:Nat):List Int:=(List.range l.length).map fun j=>if j<k then tot (l.take j) else 0
def Bh (l:List Int):List Int:=(List.range l.length).map fun j=>tot (l.take j)
theorem Yd (l:List Int) (k:Nat):(J3 l k).length=l.length:=by rw [J3,List.length_map,List.length_range]
theorem Alg (l:List Int):List.replicate l.length (0:Int)=J3 l 1:=by
 rw [J3]
 refine List.ext_getElem? fun j=> ?_
 rw [List.getElem?_replicate,List.getElem?_map]
 by_cases h:j<l.length
 ·rw [if_pos h,List.getElem?_range h,Option.map_some]
  congr 1
  split
  ·have:j=0:=by omega
   subst this;rfl
  ·rfl
 ·rw [if_neg h,List.getElem?_eq_none (by rw [List.length_range];omega)];rfl
theorem Ye {l:List Int} {j k:Nat} (h:j<k) (hj:j<l.length):(J3 l k)[j]? =some (tot (l.take j)):=by
 rw [J3,List.getElem?_map,List.getElem?_range hj,Option.map_some,if_pos h]
theorem Alf {l:List Int} {k:Nat} (hk:k<l.length):(J3 l k).set k (tot (l.take k))=J3 l (k+1):=by
 refine List.ext_getElem? fun j=> ?_
 rw [List.getElem?_set]
 split
 ·rename_i h
  subst h
  rw [if_pos (by rw [Yd];exact hk),Ye (by omega) hk]
 ·rename_i h
  rw [J3,J3,List.getElem?_map,List.getElem?_map]
  by_cases hj:j<l.length
  ·rw [List.getElem?_range hj,Option.map_some,Option.map_some]
   congr 1
   by_cases e:j<k
   ·rw [if_pos e,if_pos (by omega)]
   ·rw [if_neg e,if_neg (by omega)]
  ·rw [List.getElem?_eq_none (by rw [List.length_range];omega)];rfl
theorem Alh {l:List Int} {k:Nat} (hk:l.length≤k):J3 l k=Bh l:=by
 rw [J3,Bh]
 refine List.map_congr_left fun j hj=> ?_
 rw [if_pos (by have:=List.mem_range.1 hj;omega)]
theorem Vw (l:List Int) (h:Nums l):XC Tryz.prog 96 [.sl 1 (Cg l)] (fun r=>r= .sl 1 (Cg (Bh l))):=by
 have hll:=h.len
 refine Aj Acl Tryz.func96 R R lb<|zr<|za R R<|znr<|zm R R<|XL.len R R R Tryz.underlying45 fun hl6=>XL.step R (N1 7 (z:=(.int .i64 0)) (zs:= [dI 0]) (sz:=1) (bytes:=8) R R R Tryz.underlying45 (by kernel_rfl) (by kernel_rfl) (by kernel_rfl) (by decide) (by decide) (by omega) (by unfold maxLen;omega) (by omega))<|zp (Ay R (by conv=>lhs;whnf))<|?_
 refine zn<|zs<|zr<|za R R<|zn<|Ah<|?_
 refine A6 (α:=Nat) (fun k=>1≤k∧k≤l.length+1) (fun k=>mkF [(0, .d (.sl 1 (Cg l))),(2, .d (.v (.slice none 0 0))),(3, .own 7),(4, .d (dI k))]) (fun k=>mkH [(7, .row 3 1 ((J3 l k).map iv))]) (fun k=>l.length+1 - k) (1) (⟨Nat.le_refl _,by omega⟩) ?_ ?_ ?_
 exact fz ⟨sr,sr,sr,sr,trivial⟩
 exact gz ⟨by rw [←Alg,List.map_replicate];rfl,trivial⟩
 intro k hk0
 refine zs<|zr<|zm R R<|zm R R<|XL.len R R R Tryz.underlying45 fun hl10=>zp (Ar R R R)<|zn<|?_
 refine zd R (fun c11=> ?_) (fun c11=> ?_)
 have hkl:k<l.length:=by omega
 have h1:=(h.take (k - 1)).tot
 obtain ⟨x,hx⟩:∃x,l[k - 1]? =some x:=A3 (by omega)
 have h2:=h.bd x (List.mem_of_getElem? hx)
 have ho:=Ye (l:=l) (k:=k) (j:=k - 1) (by omega) (by omega)
 have hol:=Yd l k
 obtain ⟨z,hz⟩:∃z,(J3 l k)[k]? =some z:=A3 (by omega)
 have htk:tot (l.take k)=tot (l.take (k - 1))+x:=by have:=Sa hx;rwa [Nat.sub_add_cancel (by omega)] at this
 refine zi<|zs<|Ah<|Dn 13 [] (by kernel_rfl) (by kernel_rfl) (by kernel_rfl) (by kernel_rfl) (by decide)<|yp (Aw R (by conv=>lhs;whnf))<|?_
 refine ym R R<|yp (Aw R (by conv=>lhs;whnf))<|?_
 refine ym R R<|yp (Dr R R R (by omega) (by omega))<|yp (Dd R R R ((by omega:(k:Int) - 1=((k - 1:Nat):Int))) R Dt (by omega))<|yp (Lm R R Ai R (Dw (ho)) R)<|ym R R<|ym R R<|yp (Dr R R R (by omega) (by omega))<|yp (J0 R R R ((by omega:(k:Int) - 1=((k - 1:Nat):Int))) Dt (hx))<|yp (Bb R R Ai)<|yp (Am R R R (by omega) (by omega))<|?_
 refine ChK.nil ⟨by kernel_rfl, ?_⟩
 refine zp (Jz R R R R Dt (by omega))<|XL.step R (F4 R R R (Dw hz) R R Dv R lb)<|zn<|Af (by kernel_rfl)<|zm R R<|zp (Am R R R (by omega) (by omega))<|za R R<|zn<|?_
 exact Ap (k+1) (by omega) (by omega) (fz ⟨sr,sr,sr,sr,trivial⟩) (gz ⟨Sd (a:=tot (l.take k)) (by rw [htk];rfl) (Alf hkl).symm,trivial⟩)
 have he:=Alh (l:=l) (k:=k) (by omega)
 refine A0<|zr<|zp (Aw R (by conv=>lhs;whnf))<|?_
 refine zp (Ay R (by conv=>lhs;whnf))<|?_
 exact zn<|zt<|B6 (i:=7) R<|z1 R R (rSl he)
end Go.Proofs.YtaafemnkamfgnaaGreat
namespace Go.Proofs.YtaafemnkamfgnaaGreat
open Go.RowKit
def Iu (f:Nat→Int) (n k:Nat):List Int:=(List.range n).map fun j=>if j<k then f j else 0
theorem Wn (f:Nat→Int) (n k:Nat):(Iu f n k).length=n:=by rw [Iu,List.length_map,List.length_range]
theorem Agj (f:Nat→Int) (n:Nat):List.replicate n (0:Int)=Iu f n 0:=by
 rw [Iu]
 refine List.ext_getElem? fun j=> ?_
 rw [List.getElem?_replicate,List.getElem?_map]
 by_cases h:j<n
 ·rw [if_pos h,List.getElem?_range h,Option.map_some,if_neg (by omega)]
 ·rw [if_neg h,List.getElem?_eq_none (by rw [List.length_range];omega)];rfl
theorem Ajn {f:Nat→Int} {n k:Nat} (hk:k<n):Iu f n (k+1)=(Iu f n k).set k (f k):=by
 refine List.ext_getElem? fun j=> ?_
 rw [List.getElem?_set]
 split
 ·rename_i h
  subst h
  rw [if_pos (by rw [Wn];exact hk),Iu,List.getElem?_map,List.getElem?_range hk,Option.map_some,if_pos (by omega)]
 ·rename_i h
  rw [Iu,Iu,List.getElem?_map,List.getElem?_map]
  by_cases hj:j<n
  ·rw [List.getElem?_range hj,Option.map_some,Option.map_some]
   congr 1
   by_cases e:j<k
   ·rw [if_pos e,if_pos (by omega)]
   ·rw [if_neg e,if_neg (by omega)]
  ·rw [List.getElem?_eq_none (by rw [List.length_range];omega)];rfl
theorem Ajo {f:Nat→Int} {n k:Nat} (hk:n≤k):Iu f n k=(List.range n).map f:=by
 rw [Iu]
 refine List.map_congr_left fun j hj=> ?_
 rw [if_pos (by have:=List.mem_range.1 hj;omega)]
def Lq (l:List Ev) (j:Nat):Int:=((l[j]?).map Ev.len).getD 0
theorem Alq {l:List Ev} {k:Nat} {e:Ev} (h:l[k]? =some e):Lq l k=e.len:=by rw [Lq,h];rfl
theorem Aiv (l:List Ev):(List.range l.length).map (Lq l)=wrS l:=by
 refine List.ext_getElem? fun j=> ?_
 rw [List.getElem?_map,wrS,List.getElem?_map]
 by_cases hj:j<l.length
 ·rw [List.getElem?_range hj,Option.map_some,Lq,List.getElem?_eq_getElem hj];rfl
 ·rw [List.getElem?_eq_none (by rw [List.length_range];omega),List.getElem?_eq_none (by omega)];rfl
theorem Ab3 (l:List Ev) (hE:Evs l) (hlen:l.length≤128):XC Tryz.prog 168 [.sl 13 (l.map Ev.c)] (fun r=>r= .sl 1 (Cg (wrS l))):=by
 refine Aj Aan Tryz.func168 R R lb<|zr<|za R R<|znr<|zm R R<|XL.len R R R Tryz.underlying79 fun hl7=>XL.step R (N1 8 (z:=(.int .i64 0)) (zs:= [dI 0]) (sz:=1) (bytes:=8) R R R Tryz.underlying45 (by kernel_rfl) (by kernel_rfl) (by kernel_rfl) (by decide) (by decide) (by omega) (by unfold maxLen;omega) (by omega))<|zp (Ay R (by conv=>lhs;whnf))<|?_
 refine zn<|zs<|zr<|zm R R<|XL.len R R R Tryz.underlying79 fun hl10=>zm R R<|zn<|Ah<|?_
 refine A6 (α:=Nat) (fun k=>k≤l.length) (fun k=>mkF [(2, .d (.v (.slice none 0 0))),(3, .own 8),(9, .d (.sl 13 (l.map Ev.c))),(10, .d (dI l.length)),(11, .d (dI k))]) (fun k=>mkH [(8, .row 3 1 ((Iu (Lq l) l.length k).map iv))]) (fun k=>l.length - k) (0) (Nat.zero_le _) ?_ ?_ ?_
 exact fz ⟨sr,sr,sr,sr,sr,trivial⟩
 exact gz ⟨by rw [←Agj,List.map_replicate];rfl,trivial⟩
 intro k hk0
 refine zr<|zp (Ar R R R)<|zn<|zs<|?_
 refine zd R (fun c12=> ?_) (fun c12=> ?_)
 have hk0a:k<l.length:=by omega
 obtain ⟨x0,hx0⟩:=A3 hk0a
 have he:=hE x0 (List.mem_of_getElem? hx0)
 have hfl:=Wn (Lq l) l.length k
 obtain ⟨z,hz⟩:∃z,(Iu (Lq l) l.length k)[k]? =some z:=A3 (by omega)
 refine zi<|zs<|Ah<|zr<|zm R R<|zp (At R R R Hm hx0)<|zp (Ae (s':= .d (.agg (Ev.c x0))) (A9 R R Bz lb) (by kernel_rfl))<|XL.step R (Al 5 (l:= [.d (dI 0), .d (dI 0), .d (dI 0), .d (dI 0), .d (dI 0), .d (.v (.slice none 0 0)), .d (.v (.slice none 0 0)), .d (dI 0), .d (dI 0), .d (dI 0), .d (.v (.slice none 0 0)), .d (dI 0), .d (dI 0)]) R B3 (by kernel_rfl))<|?_
 refine za R R<|XL.step R (Ag (l':= [.d (dI x0.site), .d (dI x0.num), .d (dI x0.kind), .d (dI x0.v.log), .d (dI x0.v.dots), .d (.sl 5 (x0.heads.map Hd.c)), .d (.sl 5 (x0.graces.map Gr.c)), .d (dI x0.art), .d (dI x0.orn), .d (dI x0.dyn), .d (.sl 2 (x0.lyr.map Sy.c)), .d (dI x0.stem), .d (dI x0.beam)]) R R R R C7 R lb (by kernel_rfl))<|zng<|zp (Aw R (by conv=>lhs;whnf))<|?_
 refine zm R R<|zp (Ae (s':= .d (.agg (Ev.c x0))) (Aa (Ad R R Bz R lb)) (by kernel_rfl))<|XL.call1 R R (Ae5 _ (by assumption)) R<|zm R R<|zp (An R R R)<|zp (An R R R)<|zp (Jz R R R R Dt (by omega))<|XL.step R (F4 R R R (Dw hz) R R Dv R lb)<|zn<|Af (by kernel_rfl)<|zp (Am R R R (by omega) (by omega))<|zm R R<|zn<|?_
 exact Ap (k+1) (by omega) (by omega) (fz ⟨sr,sr,sr,sr,sr,trivial⟩) (gz ⟨Sd (a:=Lq l k) (by rw [Alq hx0];rfl) (Ajn hk0a),trivial⟩)
 have hk0b:k=l.length:=by omega
 have he:=Ajo (f:=Lq l) (n:=l.length) (k:=k) (by omega)
 refine A0<|zr<|zp (Aw R (by conv=>lhs;whnf))<|?_
 refine zp (Ay R (by conv=>lhs;whnf))<|?_
 exact zn<|zt<|B6 (i:=8) R<|z1 R R (rSl (by rw [he,Aiv]))
def Vo.whole (v:Vo):Prop:=match v.evs with| []=>False|e::_=>e.kind=3
instance (v:Vo):Decidable v.whole:=by unfold Vo.whole;cases v.evs<;>exact inferInstance
theorem Kd {v:Vo} {e:Ev} (h:v.evs[0]? =some e):v.whole↔e.kind=3:=by
 unfold Vo.whole
 cases hv:v.evs with
 |nil=>rw [hv] at h;cases h
 |cons x l=>rw [hv] at h;cases h;exact Iff.rfl
theorem Akl {v:Vo} (h:¬0<(v.evs.length:Int)):¬v.whole:=by
 unfold Vo.whole
 cases hv:v.evs with
 |nil=>exact fun h=>h
 |cons x l=>rw [hv] at h;simp at h
def Vo.absent (v:Vo):Prop:=v.evs.length=0∧v.tups.length=0
instance (v:Vo):Decidable v.absent:=by unfold Vo.absent;exact inferInstance
theorem Akk (v:Vo):XC Tryz.prog 143 [.agg (Vo.c v)] (fun r=>r=dB (decide v.whole)):=by
 refine Aj Aa6 Tryz.func143 R R lb<|zr<|XL.step R (Aq 1 (l:= [.d (.sl 13 (v.evs.map Ev.c)), .d (.sl 4 (v.tups.map Tp.c))]) R R (by kernel_rfl))<|za R R<|znr<|zp (Ac R R B2)<|zp (Ab R R De R R)<|XL.len R R R Tryz.underlying79 fun hl5=>zp (A5 R R R)<|zm R R<|?_
 refine XL.dec 7 R (fun g7=> ?_) (fun g7=> ?_)
 obtain ⟨e,he⟩:∃e,v.evs[0]? =some e:=A3 (by omega)
 exact zp (Ac R R B2)<|zp (Ab R R De R R)<|zp (At (k:=0) R R R Hm (he))<|zp (Ff R R Dk)<|zp (Bb R R Ai)<|zp (A8 R R R)<|zq R R R<|za R R<|zn<|zt<|z1 R R (rB (by rw [decide_eq_decide];exact (Kd he).symm))
 exact zk 6 R<|zq R R R<|za R R<|zn<|zt<|z1 R R (rB (by rw [eq_comm,decide_eq_false_iff_not];exact Akl g7))
theorem Afa (v:Vo):XC Tryz.prog 129 [.agg (Vo.c v)] (fun r=>r=dB (decide v.absent)):=by
 refine Aj Abj Tryz.func129 R R lb<|zr<|XL.step R (Aq 1 (l:= [.d (.sl 13 (v.evs.map Ev.c)), .d (.sl 4 (v.tups.map Tp.c))]) R R (by kernel_rfl))<|za R R<|znr<|zp (Ac R R B2)<|zp (Ab R R De R R)<|XL.len R R R Tryz.underlying79 fun hl5=>zp (A8 R R R)<|zm R R<|?_
 refine XL.dec 7 R (fun g7=> ?_) (fun g7=> ?_)
 exact zp (Ac R R Cn)<|zp (Ab R R Cc R R)<|XL.len R R R Tryz.underlying80 fun hl10=>zp (A8 R R R)<|zq R R R<|za R R<|zn<|zt<|z1 R R (rB (by rw [decide_eq_decide];unfold Vo.absent;omega))
 exact zk 4 R<|zq R R R<|za R R<|zn<|zt<|z1 R R (rB (by rw [eq_comm,decide_eq_false_iff_not];unfold Vo.absent;omega))
def Gw (n:Nat):Nat→List Ev→Int
 |_, []=>0
 |k,e::r=>if e.err≠0 then e.err else if e.kind=3∧(0<k∨1<n) then 11 else Gw n (k+1) r
def Fm (v:Vo):Int:=
 if Gw v.evs.length 0 v.evs≠0 then Gw v.evs.length 0 v.evs else if C8 v.tups (wrS v.evs)≠0 then C8 v.tups (wrS v.evs) else if E9 v.tups (wrS v.evs)≠0 then 21 else 0
def Gv (v:Vo):List Int:=if Fm v=0 then Hb v.tups (wrS v.evs) else []
theorem Yx {n k:Nat} {l:List Ev} {e:Ev} (h:l[k]? =some e) (he:e.err≠0):Gw n k (l.drop k)=e.err:=by rw [By h,Gw,if_pos he]
theorem Nf {n k:Nat} {l:List Ev} {e:Ev} (h:l[k]? =some e) (he:¬e.err≠0) (hk:e.kind=3∧(0<k∨1<n)):Gw n k (l.drop k)=11:=by rw [By h,Gw,if_neg he,if_pos hk]
theorem We {n k:Nat} {l:List Ev} {e:Ev} (h:l[k]? =some e) (he:¬e.err≠0) (hk:¬(e.kind=3∧(0<k∨1<n))):Gw n k (l.drop k)=Gw n (k+1) (l.drop (k+1)):=by rw [By h,Gw,if_neg he,if_neg hk]
theorem Q1 {v:Vo} {e:Int} (he:e=Gw v.evs.length 0 v.evs) (hn:e≠0): []=Gv v∧e=Fm v:=by
 have e2:Fm v=e:=by rw [Fm, ←he,if_pos hn]
 exact ⟨by rw [Gv,e2,if_neg hn],e2.symm⟩
theorem Anr {v:Vo} (h:Gw v.evs.length 0 v.evs=0) (hn:C8 v.tups (wrS v.evs)≠0): []=Gv v∧C8 v.tups (wrS v.evs)=Fm v:=by
 have e2:Fm v=C8 v.tups (wrS v.evs):=by rw [Fm,if_neg (by omega),if_pos hn]
 exact ⟨by rw [Gv,e2,if_neg hn],e2.symm⟩
theorem Anq {v:Vo} (h:Gw v.evs.length 0 v.evs=0) (h2:¬C8 v.tups (wrS v.evs)≠0) (hn:E9 v.tups (wrS v.evs)≠0): []=Gv v∧21=Fm v:=by
 have e2:Fm v=21:=by rw [Fm,if_neg (by omega),if_neg h2,if_pos hn]
 exact ⟨by rw [Gv,e2,if_neg (by decide)],e2.symm⟩
theorem Anp {v:Vo} (h:Gw v.evs.length 0 v.evs=0) (h2:¬C8 v.tups (wrS v.evs)≠0) (h3:¬E9 v.tups (wrS v.evs)≠0):Hb v.tups (wrS v.evs)=Gv v∧0=Fm v:=by
 have e2:Fm v=0:=by rw [Fm,if_neg (by omega),if_neg h2,if_neg h3]
 exact ⟨by rw [Gv,e2,if_pos rfl],e2.symm⟩
theorem Yw (v:Vo) (hE:Evs v.evs) (hlen:v.evs.length≤128):XC Tryz.prog 145 [.agg (Vo.c v)] (fun r=>r= .tup [.sl 1 (Cg (Gv v)),dI (Fm v)]):=by
 refine Aj Aa4 Tryz.func145 R R lb<|zr<|XL.step R (Aq 1 (l:= [.d (.sl 13 (v.evs.map Ev.c)), .d (.sl 4 (v.tups.map Tp.c))]) R R (by kernel_rfl))<|za R R<|za R R<|zn<|zs<|zr<|zp (Ac R R B2)<|zp (Ab R R De R R)<|XL.len R R R Tryz.underlying79 fun hl14=>zm R R<|zn<|Ah<|?_
 refine A6 (α:=Nat) (fun k=>k≤v.evs.length∧Gw v.evs.length k (v.evs.drop k)=Gw v.evs.length 0 v.evs) (fun k=>mkF [(1, .ptr 1 0 0),(13, .d (.sl 13 (v.evs.map Ev.c))),(14, .d (dI v.evs.length)),(15, .d (dI k))]) (fun k=>mkH [(1, .box ((Vo.c v).map S.d))]) (fun k=>v.evs.length - k) (0) (⟨Nat.zero_le _,by rw [List.drop_zero]⟩) ?_ ?_ ?_
 exact fz ⟨sr,sr,sr,sr,trivial⟩
 exact gz ⟨R,trivial⟩
 intro k hk0
 obtain ⟨hk,hgo⟩:=hk0
 refine zr<|zp (Ar R R R)<|zn<|zs<|?_
 refine zd R (fun c16=> ?_) (fun c16=> ?_)
 have hk0a:k<v.evs.length:=by omega
 obtain ⟨x0,hx0⟩:=A3 hk0a
 have he:=hE x0 (List.mem_of_getElem? hx0)
 refine zi<|zs<|Ah<|zr<|zm R R<|zp (At R R R Hm hx0)<|zp (Ae (s':= .d (.agg (Ev.c x0))) (A9 R R Bz lb) (by kernel_rfl))<|XL.step R (Al 5 (l:= [.d (dI 0), .d (dI 0), .d (dI 0), .d (dI 0), .d (dI 0), .d (.v (.slice none 0 0)), .d (.v (.slice none 0 0)), .d (dI 0), .d (dI 0), .d (dI 0), .d (.v (.slice none 0 0)), .d (dI 0), .d (dI 0)]) R B3 (by kernel_rfl))<|?_
 refine za R R<|XL.step R (Ag (l':= [.d (dI x0.site), .d (dI x0.num), .d (dI x0.kind), .d (dI x0.v.log), .d (dI x0.v.dots), .d (.sl 5 (x0.heads.map Hd.c)), .d (.sl 5 (x0.graces.map Gr.c)), .d (dI x0.art), .d (dI x0.orn), .d (dI x0.dyn), .d (.sl 2 (x0.lyr.map Sy.c)), .d (dI x0.stem), .d (dI x0.beam)]) R R R R C7 R lb (by kernel_rfl))<|zn<|zs<|zr<|?_
 refine zp (Ae (s':= .d (.agg (Ev.c x0))) (Aa (Ad R R Bz R lb)) (by kernel_rfl))<|XL.call1 R R (Qb _ (by assumption)) R<|za R R<|znr<|zm R R<|zp (As R R R)<|zn<|?_
 refine zd R (fun c23=> ?_) (fun c23=> ?_)
 refine zr<|zm R R<|za R R<|za R R<|zn<|zt<|?_
 exact Az R (RV.nil (sz:=1) R R) (RV.tmp R R) (r2 (rSl (Q1 (by rw [←hgo,Yx hx0 c23]) c23).1) (rI (Q1 (by rw [←hgo,Yx hx0 c23]) c23).2))
 refine zi<|zr<|zp (Ac R R Dk)<|zp (Ab R R Ai R R)<|zp (A8 R R R)<|zm R R<|?_
 refine XL.dec 28 R (fun g28=> ?_) (fun g28=> ?_)
 refine zm R R<|zp (A5 R R R)<|zm R R<|?_
 refine XL.dec 31 R (fun g31=> ?_) (fun g31=> ?_)
 refine zk 4 R<|zq R R R<|zq R R R<|zn<|Au (by kernel_rfl) R<|zr<|za R R<|za R R<|zn<|zt<|?_
 exact Az R (RV.nil (sz:=1) R R) (RV.tmp R R) (r2 (rSl (Q1 (e:=11) (by rw [←hgo,Nf hx0 c23 (by omega)]) (by decide)).1) (rI (Q1 (by rw [←hgo,Nf hx0 c23 (by omega)]) (by decide)).2))
 refine zp (Ac R R B2)<|zp (Ab R R De R R)<|XL.len R R R Tryz.underlying79 fun hl34=>zp (A5 R R R)<|zq R R R<|zq R R R<|zn<|?_
 refine zd R (fun c37=> ?_) (fun c37=> ?_)
 refine zr<|za R R<|za R R<|zn<|zt<|?_
 exact Az R (RV.nil (sz:=1) R R) (RV.tmp R R) (r2 (rSl (Q1 (e:=11) (by rw [←hgo,Nf hx0 c23 (by omega)]) (by decide)).1) (rI (Q1 (by rw [←hgo,Nf hx0 c23 (by omega)]) (by decide)).2))
 refine zi<|Af (by kernel_rfl)<|zp (Am R R R (by omega) (by omega))<|zm R R<|zn<|?_
 exact Ap (k+1) (⟨by omega,by rw [←We hx0 c23 (by omega)];exact hgo⟩) (by omega) (fz ⟨sr,sr,sr,sr,trivial⟩) (gz ⟨rfl,trivial⟩)
 refine zk 8 R<|zq R R R<|zn<|Av (by kernel_rfl) R<|zi<|Af (by kernel_rfl)<|zp (Am R R R (by omega) (by omega))<|zm R R<|zn<|?_
 exact Ap (k+1) (⟨by omega,by rw [←We hx0 c23 (by omega)];exact hgo⟩) (by omega) (fz ⟨sr,sr,sr,sr,trivial⟩) (gz ⟨rfl,trivial⟩)
 have hk0b:k=v.evs.length:=by omega
 have hz:Gw v.evs.length 0 v.evs=0:=by rw [←hgo,hk0b,List.drop_length];rfl
 refine A0<|zr<|zp (Ac R R B2)<|zp (Ab R R De R R)<|XL.call1 R R (Ab3 _ (by assumption) (by omega)) R<|za R R<|znr<|zp (Ac R R Cn)<|zp (Ab R R Cc R R)<|zm R R<|XL.call1 R R (Rt _ _) R<|zm R R<|zp (An R R R)<|zp (An R R R)<|?_
 refine za R R<|za R R<|zn<|zs<|zr<|zm R R<|zp (As R R R)<|zn<|?_
 refine zd R (fun c50=> ?_) (fun c50=> ?_)
 refine zr<|zm R R<|za R R<|za R R<|zn<|zt<|?_
 exact Az R (RV.nil (sz:=1) R R) (RV.tmp R R) (r2 (rSl (Anr hz c50).1) (rI (Anr hz c50).2))
 refine zi<|zs<|zr<|zp (Ac R R Cn)<|zp (Ab R R Cc R R)<|zm R R<|XL.call1 R R (Akm _ _) R<|zm R R<|zp (An R R R)<|zp (An R R R)<|za R R<|za R R<|znr<|zm R R<|?_
 refine zp (As R R R)<|zn<|?_
 refine zd R (fun c60=> ?_) (fun c60=> ?_)
 refine zr<|za R R<|za R R<|zn<|zt<|?_
 exact Az R (RV.nil (sz:=1) R R) (RV.tmp R R) (r2 (rSl (Anq hz c50 c60).1) (rI (Anq hz c50 c60).2))
 refine zi<|zr<|zm R R<|za R R<|za R R<|zn<|zt<|?_
 exact Az R (RV.tmp R R) (RV.tmp R R) (r2 (rSl (Anp hz c50 c60).1) (rI (Anp hz c50 c60).2))
def Dj (v:Vo) (L:Int):Int:=
 if L<1∨15482880<L then 2 else if 128<v.evs.length then 9 else
 if v.whole∧v.evs.length=1 then (match v.evs with| []=>0|e::_=>if e.err≠0 then e.err else if 0<v.tups.length then 21 else 0) else Fm v
def Ez (v:Vo) (L:Int):List Int:=if Dj v L≠0 then [] else if v.whole∧v.evs.length=1 then [L] else Gv v
def ckE (v:Vo) (L:Int):Int:=if Dj v L=0∧0<(Ez v L).length∧tot (Ez v L)≠L then 20 else Dj v L
def ckL (v:Vo) (L:Int):List Int:=if ckE v L≠0 then [] else Ez v L
theorem W5 {v:Vo} {L:Int} (h:L<1∨15482880<L): []=Ez v L∧2=Dj v L:=by
 have e:Dj v L=2:=by rw [Dj,if_pos h]
 exact ⟨by rw [Ez,e,if_pos (by decide)],e.symm⟩
theorem Ann {v:Vo} {L:Int} (h:¬L<1) (h':¬15482880<L) (h2:128<(v.evs.length:Int)): []=Ez v L∧9=Dj v L:=by
 have e:Dj v L=9:=by rw [Dj,if_neg (by omega),if_pos (by omega)]
 exact ⟨by rw [Ez,e,if_pos (by decide)],e.symm⟩
theorem Af9 {v:Vo} {L:Int} (h:¬L<1) (h':¬15482880<L) (h2:¬128<(v.evs.length:Int)) (hw:v.whole) (h1:(v.evs.length:Int)=1) {e:Ev} (he:v.evs[0]? =some e):
  Dj v L=(if e.err≠0 then e.err else if 0<v.tups.length then 21 else 0):=by
 rw [Dj,if_neg (by omega),if_neg (by omega),if_pos ⟨hw,by omega⟩]
 cases hv:v.evs with
 |nil=>rw [hv] at he;cases he
 |cons x l=>rw [hv] at he;cases he;rfl
theorem W4 {v:Vo} {L:Int} (h:¬L<1) (h':¬15482880<L) (h2:¬128<(v.evs.length:Int)) (hw:¬(v.whole∧(v.evs.length:Int)=1)):Gv v=Ez v L∧Fm v=Dj v L:=by
 have hw':¬(v.whole∧v.evs.length=1):=fun k=>hw ⟨k.1,by omega⟩
 have e:Dj v L=Fm v:=by rw [Dj,if_neg (by omega),if_neg (by omega),if_neg hw']
 refine ⟨?_,e.symm⟩
 rw [Ez,e,if_neg hw']
 split
 ·rename_i hn;rw [Gv,if_neg hn]
 ·rfl
theorem T8 {v:Vo} {L a:Int} (h:Dj v L=a) (ha:a≠0): []=Ez v L∧a=Dj v L:=⟨by rw [Ez,h,if_pos ha],h.symm⟩
theorem Yo {v:Vo} {L:Int} (h:Dj v L=0) (hw:v.whole) (h1:(v.evs.length:Int)=1): [L]=Ez v L∧0=Dj v L:=⟨by rw [Ez,h,if_neg (by decide),if_pos ⟨hw,by omega⟩],h.symm⟩
theorem Af8 (v:Vo) (L:Int) (hE:Evs v.evs):XC Tryz.prog 115 [.agg (Vo.c v), .v (.int .i64 L)] (fun r=>r= .tup [.sl 1 (Cg (Ez v L)),dI (Dj v L)]):=by
 refine Aj Abm Tryz.func115 R R lb<|zr<|XL.step R (Aq 2 (l:= [.d (.sl 13 (v.evs.map Ev.c)), .d (.sl 4 (v.tups.map Tp.c))]) R R (by kernel_rfl))<|za R R<|za R R<|zn<|zs<|Ah<|zr<|zm R R<|zp (Ar R R R)<|zm R R<|?_
 refine XL.dec 10 R (fun g10=> ?_) (fun g10=> ?_)
 refine zk 2 R<|zq R R R<|za R R<|zn<|Au (by kernel_rfl) R<|zr<|za R R<|za R R<|zn<|zt<|?_
 exact Az R (RV.nil (sz:=1) R R) (RV.tmp R R) (r2 (rSl (W5 (v:=v) (by omega)).1) (rI (W5 (v:=v) (by omega)).2))
 refine zm R R<|zp (A5 R R R)<|zq R R R<|za R R<|zn<|?_
 refine zd R (fun c7=> ?_) (fun c7=> ?_)
 refine zr<|za R R<|za R R<|zn<|zt<|?_
 exact Az R (RV.nil (sz:=1) R R) (RV.tmp R R) (r2 (rSl (W5 (v:=v) (by omega)).1) (rI (W5 (v:=v) (by omega)).2))
 refine zr<|zp (Ac R R B2)<|zp (Ab R R De R R)<|XL.len R R R Tryz.underlying79 fun hl17=>zp (A5 R R R)<|za R R<|zn<|?_
 refine zd R (fun c14=> ?_) (fun c14=> ?_)
 refine zr<|za R R<|za R R<|zn<|zt<|?_
 exact Az R (RV.nil (sz:=1) R R) (RV.tmp R R) (r2 (rSl (Ann g10 c7 c14).1) (rI (Ann g10 c7 c14).2))
 refine zi<|zs<|zr<|zp (Ae (s':= .d (.agg (Vo.c v))) (Aa (Ad R R Ax R lb)) (by kernel_rfl))<|XL.call1 R R (Akk _) R<|zm R R<|?_
 refine XL.dec 21 R (fun g21=> ?_) (fun g21=> ?_)
 refine zp (Ac R R B2)<|zp (Ab R R De R R)<|XL.len R R R Tryz.underlying79 fun hl24=>zp (A8 R R R)<|zq R R R<|zn<|?_
 refine zd R (fun c26=> ?_) (fun c26=> ?_)
 refine zs<|zs<|?_
 obtain ⟨e,hxe⟩:∃e,v.evs[0]? =some e:=A3 (by omega)
 have he:=hE e (List.mem_of_getElem? hxe)
 have hle:=Af9 (L:=L) g10 c7 c14 g21 c26 hxe
 refine Af (by kernel_rfl)<|zp (Ac R R B2)<|zp (Ab R R De R R)<|zp (At (k:=0) R R R Hm (hxe))<|zp (Ae (s':= .d (.agg (Ev.c e))) (A9 R R Bz lb) (by kernel_rfl))<|XL.call1 R R (Qb _ (by assumption)) R<|za R R<|znr<|zm R R<|zp (As R R R)<|zn<|?_
 refine zd R (fun c33=> ?_) (fun c33=> ?_)
 refine zr<|zm R R<|za R R<|za R R<|zn<|zt<|?_
 exact Az R (RV.nil (sz:=1) R R) (RV.tmp R R) (r2 (rSl (T8 (by rw [hle,if_pos c33]) c33).1) (rI (T8 (by rw [hle,if_pos c33]) c33).2))
 refine zi<|zs<|zr<|zp (Ac R R Cn)<|zp (Ab R R Cc R R)<|XL.len R R R Tryz.underlying80 fun hl37=>zp (A5 R R R)<|zn<|?_
 refine zd R (fun c38=> ?_) (fun c38=> ?_)
 refine zr<|za R R<|za R R<|zn<|zt<|?_
 exact Az R (RV.nil (sz:=1) R R) (RV.tmp R R) (r2 (rSl (T8 (a:=21) (by rw [hle,if_neg c33,if_pos (by omega)]) (by decide)).1) (rI (T8 (a:=21) (by rw [hle,if_neg c33,if_pos (by omega)]) (by decide)).2))
 refine zi<|zr<|zm R R<|XL.step R (Bq 40 R Tryz.underlying45 Dv Hn R R (by omega) (by omega))<|zp (Ay R (by conv=>lhs;whnf))<|?_
 refine za R R<|zn<|zt<|B6 (i:=40) R<|?_
 exact Az R (RV.tmp R R) (RV.tmp R R) (r2 (rSl (l:= [L]) (g:=iv) (Yo (by rw [hle,if_neg c33,if_neg (by omega)]) g21 c26).1) (rI (Yo (by rw [hle,if_neg c33,if_neg (by omega)]) g21 c26).2))
 refine zi<|zr<|zp (Ae (s':= .d (.agg (Vo.c v))) (Aa (Ad R R Ax R lb)) (by kernel_rfl))<|XL.call1 R R (Yw _ (by assumption) (by omega)) R<|zp (An R R R)<|zp (An R R R)<|za R R<|za R R<|zn<|zt<|?_
 exact Az R (RV.tmp R R) (RV.tmp R R) (r2 (rSl (W4 g10 c7 c14 (fun h=>c26 h.2)).1) (rI (W4 g10 c7 c14 (fun h=>c26 h.2)).2))
 refine zk 4 R<|zq R R R<|zn<|Av (by kernel_rfl) R<|zi<|zr<|zp (Ae (s':= .d (.agg (Vo.c v))) (Aa (Ad R R Ax R lb)) (by kernel_rfl))<|XL.call1 R R (Yw _ (by assumption) (by omega)) R<|zp (An R R R)<|zp (An R R R)<|za R R<|za R R<|zn<|zt<|?_
 exact Az R (RV.tmp R R) (RV.tmp R R) (r2 (rSl (W4 g10 c7 c14 (fun h=>g21 h.1)).1) (rI (W4 g10 c7 c14 (fun h=>g21 h.1)).2))
end Go.Proofs.YtaafemnkamfgnaaGreat
namespace Go.Proofs.YtaafemnkamfgnaaGreat
open Go.RowKit
theorem Ao8 {l:List Tp} {n:Int} (hT:Tups l n) (ws:List Int):∀i x,x∈C1 l i ws→0≤x∧x≤253671505920:=by
 induction ws with
 |nil=>intro i x h;cases h
 |cons w r ih=>
  intro i x h
  rw [C1] at h
  rcases List.mem_cons.1 h with e|e
  ·rw [e];exact X0 hT.ok (hT.hits i)
  ·exact ih _ _ e
theorem Afz (l:List Tp) (ws:List Int):Nums (Hb l ws):=by
 unfold Hb
 split
 ·rename_i h
  have hT:=M4 (show ¬C8 l ws≠0 by omega)
  have hb:=hT.bd
  exact ⟨by rw [Iq];omega,Ao8 hT ws 0⟩
 ·exact ⟨by simp,fun x h=>by cases h⟩
theorem Sm:Nums []:=⟨by simp,fun x h=>by cases h⟩
theorem Aif (v:Vo):Nums (Gv v):=by
 unfold Gv
 split
 ·exact Afz _ _
 ·exact Sm
theorem Vz (v:Vo) (L:Int):Nums (Ez v L):=by
 unfold Ez
 split
 ·exact Sm
 ·rename_i h
  split
  ·refine ⟨by simp,fun x hx=> ?_⟩
   rw [List.mem_singleton.1 hx]
   unfold Dj at h
   split at h
   ·omega
   ·omega
  ·exact Aif v
theorem Je (v:Vo) (L:Int):Nums (ckL v L):=by
 unfold ckL
 split
 ·exact Sm
 ·exact Vz v L
theorem As2 {v:Vo} {L:Int} (h0:Dj v L=0) (h1:0<((Ez v L).length:Int)) (h2:tot (Ez v L)≠L): []=ckL v L∧20=ckE v L:=by
 have e:ckE v L=20:=by rw [ckE,if_pos ⟨h0,by omega,h2⟩]
 exact ⟨by rw [ckL,e,if_pos (by decide)],e.symm⟩
theorem Agt {v:Vo} {L:Int} (h0:Dj v L=0) (h:¬(0<((Ez v L).length:Int)∧tot (Ez v L)≠L)):Ez v L=ckL v L∧0=ckE v L:=by
 have e:ckE v L=0:=by rw [ckE,if_neg (fun k=>h ⟨by omega,k.2.2⟩),h0]
 exact ⟨by rw [ckL,e,if_neg (by decide)],e.symm⟩
theorem As1 {v:Vo} {L:Int} (h:Dj v L≠0): []=ckL v L∧Dj v L=ckE v L:=by
 have e:ckE v L=Dj v L:=by rw [ckE,if_neg (fun k=>h k.1)]
 exact ⟨by rw [ckL,e,if_pos h],e.symm⟩
theorem Lt (v:Vo) (L:Int) (hE:Evs v.evs):XC Tryz.prog 95 [.agg (Vo.c v), .v (.int .i64 L)] (fun r=>r= .tup [.sl 1 (Cg (ckL v L)),dI (ckE v L)]):=by
 have hN:=Vz v L
 refine Aj Acm Tryz.func95 R R lb<|zr<|XL.step R (Aq 2 (l:= [.d (.sl 13 (v.evs.map Ev.c)), .d (.sl 4 (v.tups.map Tp.c))]) R R (by kernel_rfl))<|za R R<|za R R<|znr<|zp (Ae (s':= .d (.agg (Vo.c v))) (Aa (Ad R R Ax R lb)) (by kernel_rfl))<|zm R R<|XL.call1 R R (Af8 _ _ (by assumption)) R<|zm R R<|zp (An R R R)<|zp (An R R R)<|za R R<|za R R<|?_
 refine zn<|zs<|zr<|zm R R<|zp (A8 R R R)<|zm R R<|?_
 refine XL.dec 16 R (fun g16=> ?_) (fun g16=> ?_)
 refine zm R R<|XL.len R R R Tryz.underlying45 fun hl18=>zp (A5 R R R)<|zq R R R<|zm R R<|?_
 refine XL.dec 21 R (fun g21=> ?_) (fun g21=> ?_)
 refine zm R R<|XL.call1 R R (Ako _ (by assumption)) R<|zm R R<|zp (As R R R)<|zq R R R<|zn<|?_
 refine zd R (fun c26=> ?_) (fun c26=> ?_)
 refine Af (by kernel_rfl)<|za R R<|zn<|zs<|zr<|zm R R<|zp (As R R R)<|zn<|?_
 refine zd R (fun c28=> ?_) (fun c28=> ?_)
 refine zr<|zm R R<|za R R<|za R R<|zn<|zt<|?_
 exact Az R (RV.nil (sz:=1) R R) (RV.tmp R R) (r2 (rSl (As2 g16 g21 c26).1) (rI (As2 g16 g21 c26).2))
 refine zi<|zr<|zm R R<|za R R<|za R R<|zn<|zt<|?_
 exact Az R (RV.tmp R R) (RV.tmp R R) (by exfalso;omega)
 refine zi<|zs<|zr<|zm R R<|zp (As R R R)<|zn<|?_
 refine zd R (fun c28=> ?_) (fun c28=> ?_)
 refine zr<|zm R R<|za R R<|za R R<|zn<|zt<|?_
 exact Az R (RV.nil (sz:=1) R R) (RV.tmp R R) (by exfalso;omega)
 refine zi<|zr<|zm R R<|za R R<|za R R<|zn<|zt<|?_
 exact Az R (RV.tmp R R) (RV.tmp R R) (r2 (rSl (Agt g16 (fun h=>c26 h.2)).1) (rI (Agt g16 (fun h=>c26 h.2)).2))
 refine zk 4 R<|zq R R R<|zn<|Av (by kernel_rfl) R<|zi<|zs<|zr<|zm R R<|zp (As R R R)<|zn<|?_
 refine zd R (fun c28=> ?_) (fun c28=> ?_)
 refine zr<|zm R R<|za R R<|za R R<|zn<|zt<|?_
 exact Az R (RV.nil (sz:=1) R R) (RV.tmp R R) (by exfalso;omega)
 refine zi<|zr<|zm R R<|za R R<|za R R<|zn<|zt<|?_
 exact Az R (RV.tmp R R) (RV.tmp R R) (r2 (rSl (Agt g16 (fun h=>g21 h.1)).1) (rI (Agt g16 (fun h=>g21 h.1)).2))
 refine zk 3 R<|zq R R R<|zm R R<|zk 4 R<|zq R R R<|zn<|Av (by kernel_rfl) R<|zi<|zs<|zr<|zm R R<|zp (As R R R)<|zn<|?_
 refine zd R (fun c28=> ?_) (fun c28=> ?_)
 refine zr<|zm R R<|za R R<|za R R<|zn<|zt<|?_
 exact Az R (RV.nil (sz:=1) R R) (RV.tmp R R) (r2 (rSl (As1 g16).1) (rI (As1 g16).2))
 refine zi<|zr<|zm R R<|za R R<|za R R<|zn<|zt<|?_
 exact Az R (RV.tmp R R) (RV.tmp R R) (by exfalso;omega)
theorem Kp (v:Vo) (L:Int) (hE:Evs v.evs):XC Tryz.prog 71 [.agg (Vo.c v), .v (.int .i64 L)] (fun r=>r=dI (ckE v L)):=by
 refine Aj Acz Tryz.func71 R R lb<|zr<|XL.step R (Aq 2 (l:= [.d (.sl 13 (v.evs.map Ev.c)), .d (.sl 4 (v.tups.map Tp.c))]) R R (by kernel_rfl))<|za R R<|znr<|zp (Ae (s':= .d (.agg (Vo.c v))) (Aa (Ad R R Ax R lb)) (by kernel_rfl))<|zm R R<|XL.call1 R R (Lt _ _ (by assumption)) R<|zm R R<|zp (An R R R)<|zp (An R R R)<|za R R<|za R R<|znr<|?_
 exact zm R R<|za R R<|zn<|zt<|z1 R R (R)
theorem Arl {v:Vo} {L:Int} (h:ckE v L≠0): []=Bh (ckL v L):=by rw [ckL,if_pos h];rfl
theorem Wu (v:Vo) (L:Int) (hE:Evs v.evs):XC Tryz.prog 57 [.agg (Vo.c v), .v (.int .i64 L)] (fun r=>r= .tup [.sl 1 (Cg (Bh (ckL v L))),dI (ckE v L)]):=by
 have hN:=Je v L
 refine Aj Adb Tryz.func57 R R lb<|zr<|XL.step R (Aq 2 (l:= [.d (.sl 13 (v.evs.map Ev.c)), .d (.sl 4 (v.tups.map Tp.c))]) R R (by kernel_rfl))<|za R R<|za R R<|znr<|zp (Ae (s':= .d (.agg (Vo.c v))) (Aa (Ad R R Ax R lb)) (by kernel_rfl))<|zm R R<|XL.call1 R R (Lt _ _ (by assumption)) R<|zm R R<|zp (An R R R)<|zp (An R R R)<|za R R<|za R R<|?_
 refine zn<|zs<|zr<|zm R R<|zp (As R R R)<|zn<|?_
 refine zd R (fun c15=> ?_) (fun c15=> ?_)
 refine zr<|zm R R<|za R R<|za R R<|zn<|zt<|?_
 exact Az R (RV.nil (sz:=1) R R) (RV.tmp R R) (r2 (rSl (Arl c15)) R)
 refine zi<|zr<|zm R R<|XL.call1 R R (Vw _ (by assumption)) R<|za R R<|za R R<|zn<|zt<|?_
 exact Az R (RV.tmp R R) (RV.tmp R R) (r2 R (rI (by omega)))
def atS (l:List Int) (t:Int):Nat→Int × Int
 |0=>(0,0)
 |k+1=>match l[k]? with
  |some x=>if tot (l.take k)≤t∧0<x then (k,tot (l.take k)) else atS l t k
  |none=>atS l t k
theorem Abx {l:List Int} {t x:Int} {k:Nat} (h:l[k]? =some x) (h1:tot (l.take k)≤t) (h2:0<x):atS l t (k+1)=((k:Int),tot (l.take k)):=by simp only [atS,h];rw [if_pos ⟨h1,h2⟩]
theorem N9 {l:List Int} {t x:Int} {k:Nat} (h:l[k]? =some x) (h1:¬(tot (l.take k)≤t∧0<x)):atS l t (k+1)=atS l t k:=by simp only [atS,h];rw [if_neg h1]
def atE (v:Vo) (L t:Int):Int:=if ckE v L≠0 then ckE v L else if (ckL v L).length=0 then 10 else if t<0∨L≤t then 2 else 0
def atV (v:Vo) (L t:Int):Int × Int:=if atE v L t≠0 then (0,0) else atS (ckL v L) t (ckL v L).length
theorem Ib {l:List Int} {k:Nat} {x:Int} (h:(Bh l)[k]? =some x):x=tot (l.take k):=by
 have hk:=(List.getElem?_eq_some_iff.1 h).1
 rw [Bh,List.length_map,List.length_range] at hk
 rw [Bh,List.getElem?_map,List.getElem?_range hk] at h
 cases h;rfl
theorem Kf (l:List Int):(Bh l).length=l.length:=by rw [Bh,List.length_map,List.length_range]
theorem Lk {v:Vo} {L t a:Int} (h:atE v L t=a) (ha:a≠0):0=(atV v L t).1∧0=(atV v L t).2∧a=atE v L t:=by
 have e:atV v L t=(0,0):=by rw [atV,h,if_pos ha]
 rw [e];exact ⟨rfl,rfl,h.symm⟩
theorem Agw {v:Vo} {L t:Int} (h:ckE v L≠0):atE v L t=ckE v L:=by rw [atE,if_pos h]
theorem Agv {v:Vo} {L t:Int} (h:¬ckE v L≠0) (h2:((ckL v L).length:Int)=0):atE v L t=10:=by rw [atE,if_neg h,if_pos (by omega)]
theorem U7 {v:Vo} {L t:Int} (h:¬ckE v L≠0) (h2:¬((ckL v L).length:Int)=0) (h3:t<0∨L≤t):atE v L t=2:=by rw [atE,if_neg h,if_neg (by omega),if_pos h3]
theorem Am8 {v:Vo} {L t:Int} (h:¬ckE v L≠0) (h2:¬((ckL v L).length:Int)=0) (h3:¬(t<0∨L≤t)):atS (ckL v L) t (ckL v L).length=atV v L t∧0=atE v L t:=by
 have e:atE v L t=0:=by rw [atE,if_neg h,if_neg (by omega),if_neg h3]
 exact ⟨by rw [atV,e,if_neg (by decide)],e.symm⟩
theorem Aug (v:Vo) (L t:Int) (hE:Evs v.evs):XC Tryz.prog 61 [.agg (Vo.c v), .v (.int .i64 L), .v (.int .i64 t)] (fun r=>r= .tup [dI (atV v L t).1,dI (atV v L t).2,dI (atE v L t)]):=by
 have hN:=Je v L
 have hol:=Kf (ckL v L)
 refine Aj Ac8 Tryz.func61 R R lb<|zr<|XL.step R (Aq 3 (l:= [.d (.sl 13 (v.evs.map Ev.c)), .d (.sl 4 (v.tups.map Tp.c))]) R R (by kernel_rfl))<|za R R<|za R R<|za R R<|znr<|zp (Ae (s':= .d (.agg (Vo.c v))) (Aa (Ad R R Ax R lb)) (by kernel_rfl))<|zm R R<|XL.call1 R R (Lt _ _ (by assumption)) R<|zm R R<|zp (An R R R)<|zp (An R R R)<|za R R<|?_
 refine za R R<|zn<|zs<|Ah<|zr<|zm R R<|zp (As R R R)<|za R R<|zn<|?_
 refine zd R (fun c18=> ?_) (fun c18=> ?_)
 refine zr<|zm R R<|za R R<|za R R<|za R R<|zn<|zt<|?_
 exact Ut R (RV.tmp R R) (RV.tmp R R) (RV.tmp R R) (r3 (rI (Lk (t:=t) (Agw c18) c18).1) (rI (Lk (t:=t) (Agw c18) c18).2.1) (rI (Lk (t:=t) (Agw c18) c18).2.2))
 refine zr<|zm R R<|XL.len R R R Tryz.underlying45 fun hl24=>zp (A8 R R R)<|za R R<|zn<|?_
 refine zd R (fun c22=> ?_) (fun c22=> ?_)
 refine zr<|za R R<|za R R<|za R R<|zn<|zt<|?_
 exact Ut R (RV.tmp R R) (RV.tmp R R) (RV.tmp R R) (r3 (rI (Lk (t:=t) (Agv c18 c22) (by decide)).1) (rI (Lk (t:=t) (Agv c18 c22) (by decide)).2.1) (rI (Lk (t:=t) (Agv c18 c22) (by decide)).2.2))
 refine zr<|zm R R<|zp (Ar R R R)<|zm R R<|?_
 refine XL.dec 29 R (fun g29=> ?_) (fun g29=> ?_)
 refine zk 3 R<|zq R R R<|za R R<|zn<|Au (by kernel_rfl) R<|zr<|za R R<|za R R<|za R R<|zn<|zt<|?_
 exact Ut R (RV.tmp R R) (RV.tmp R R) (RV.tmp R R) (r3 (rI (Lk (U7 c18 c22 (by omega)) (by decide)).1) (rI (Lk (U7 c18 c22 (by omega)) (by decide)).2.1) (rI (Lk (U7 c18 c22 (by omega)) (by decide)).2.2))
 refine zm R R<|zm R R<|zp (Fz R R R)<|zq R R R<|za R R<|zn<|?_
 refine zd R (fun c26=> ?_) (fun c26=> ?_)
 refine zr<|za R R<|za R R<|za R R<|zn<|zt<|?_
 exact Ut R (RV.tmp R R) (RV.tmp R R) (RV.tmp R R) (r3 (rI (Lk (U7 c18 c22 (by omega)) (by decide)).1) (rI (Lk (U7 c18 c22 (by omega)) (by decide)).2.1) (rI (Lk (U7 c18 c22 (by omega)) (by decide)).2.2))
 refine zi<|zs<|zr<|zm R R<|XL.call1 R R (Vw _ (by assumption)) R<|XL.len R R R Tryz.underlying45 fun hl36=>zm R R<|zn<|Ah<|?_
 refine A6 (α:=Nat) (fun k=>k≤(Bh (ckL v L)).length) (fun k=>mkF [(2, .d (dI t)),(6, .d (dI (atS (ckL v L) t k).1)),(7, .d (dI (atS (ckL v L) t k).2)),(8, .d (dI (ckE v L))),(9, .d (.sl 1 (Cg (ckL v L)))),(35, .d (.sl 1 (Cg (Bh (ckL v L))))),(36, .d (dI (Bh (ckL v L)).length)),(37, .d (dI k))]) (fun k=>mkH []) (fun k=>(Bh (ckL v L)).length - k) (0) (Nat.zero_le _) ?_ ?_ ?_
 exact fz ⟨sr,sr,sr,sr,sr,sr,sr,sr,trivial⟩
 exact HSub.nil
 intro k hk1
 refine zr<|zp (Ar R R R)<|zn<|zs<|?_
 refine zd R (fun c38=> ?_) (fun c38=> ?_)
 have hk1a:k<(Bh (ckL v L)).length:=by omega
 obtain ⟨x1,hx1⟩:=A3 hk1a
 have hxe:=Ib hx1
 obtain ⟨y,hy⟩:∃y,(ckL v L)[k]? =some y:=A3 (by omega)
 refine zi<|zs<|Ah<|zr<|zm R R<|zp (At R R R Dt hx1)<|zp (Bb R R Ai)<|za R R<|za R R<|znr<|zm R R<|zm R R<|zp (Jy R R R)<|zm R R<|?_
 refine XL.dec 45 R (fun g45=> ?_) (fun g45=> ?_)
 refine zm R R<|zm R R<|zp (At R R R Dt (hy))<|zp (Bb R R Ai)<|zp (A5 R R R)<|zq R R R<|zn<|?_
 refine zd R (fun c51=> ?_) (fun c51=> ?_)
 refine Af (by kernel_rfl)<|zm R R<|zm R R<|za R R<|za R R<|zn<|Af (by kernel_rfl)<|zp (Am R R R (by omega) (by omega))<|zm R R<|zn<|?_
 exact Ap (k+1) (by omega) (by omega) (fz ⟨sr, .same (sI (by rw [Abx hy (by rw [←Ib hx1];exact g45) c51])), .same (sI (by rw [Abx hy (by rw [←Ib hx1];exact g45) c51];exact Ib hx1)),sr,sr,sr,sr,sr,trivial⟩) (HSub.nil)
 refine zi<|Af (by kernel_rfl)<|zp (Am R R R (by omega) (by omega))<|zm R R<|zn<|?_
 exact Ap (k+1) (by omega) (by omega) (fz ⟨sr, .same (sI (by rw [N9 hy (fun h=>c51 h.2)])), .same (sI (by rw [N9 hy (fun h=>c51 h.2)])),sr,sr,sr,sr,sr,trivial⟩) (HSub.nil)
 refine zk 5 R<|zq R R R<|zn<|Av (by kernel_rfl) R<|zi<|Af (by kernel_rfl)<|zp (Am R R R (by omega) (by omega))<|zm R R<|zn<|?_
 exact Ap (k+1) (by omega) (by omega) (fz ⟨sr, .same (sI (by rw [N9 hy (fun h=>g45 (by rw [Ib hx1];exact h.1))])), .same (sI (by rw [N9 hy (fun h=>g45 (by rw [Ib hx1];exact h.1))])),sr,sr,sr,sr,sr,trivial⟩) (HSub.nil)
 have hk1b:k=(Bh (ckL v L)).length:=by omega
 have hke:k=(ckL v L).length:=by omega
 refine A0<|zr<|zm R R<|zm R R<|za R R<|za R R<|za R R<|zn<|zt<|?_
 exact Ut R (RV.tmp R R) (RV.tmp R R) (RV.tmp R R) (r3 (rI (by rw [hke,(Am8 c18 c22 (by omega)).1])) (rI (by rw [hke,(Am8 c18 c22 (by omega)).1])) (rI (Am8 c18 c22 (by omega)).2))
end Go.Proofs.YtaafemnkamfgnaaGreat
namespace Go.Proofs.YtaafemnkamfgnaaGreat
open Go.RowKit
set_option maxRecDepth 4000
set_option maxHeartbeats 4000000 in
theorem U4 (d:Nat) (w:World) (a0 a1 a2 a3 a4 a5 b0 b1 b2 b3 b4 b5:Int):(Op.equalIn (d+2) 24 (.agg #[.int .i64 a0, .int .i64 a1, .int .i64 a2, .int .i64 a3, .int .i64 a4, .int .i64 a5]) (.agg #[.int .i64 b0, .int .i64 b1, .int .i64 b2, .int .i64 b3, .int .i64 b4, .int .i64 b5])).run Tryz.prog w=
  .ok (decide (a0=b0∧a1=b1∧a2=b2∧a3=b3∧a4=b4∧a5=b5)) w:=by
 rw [show d+2=(d+1)+1 from rfl]
 have hp:∀(cs:Array Value) (k:Nat) (v:Value),cs[k]? =some v→(part 3 cs k).run Tryz.prog w= .ok v w:=fun cs k v h=>Bj Ai w h
 have he:∀a b:Int,(Op.equalIn (d+1) 3 (.int .i64 a) (.int .i64 b)).run Tryz.prog w= .ok (decide (a=b)) w:=fun a b=>Cj d 3 Tryz.underlying3 a b
 have ha0:=hp (#[.int .i64 a0, .int .i64 a1, .int .i64 a2, .int .i64 a3, .int .i64 a4, .int .i64 a5]) ((0)*1) (.int .i64 a0) rfl
 have hb0:=hp (#[.int .i64 b0, .int .i64 b1, .int .i64 b2, .int .i64 b3, .int .i64 b4, .int .i64 b5]) ((0)*1) (.int .i64 b0) rfl
 have ha1:=hp (#[.int .i64 a0, .int .i64 a1, .int .i64 a2, .int .i64 a3, .int .i64 a4, .int .i64 a5]) ((0+1)*1) (.int .i64 a1) rfl
 have hb1:=hp (#[.int .i64 b0, .int .i64 b1, .int .i64 b2, .int .i64 b3, .int .i64 b4, .int .i64 b5]) ((0+1)*1) (.int .i64 b1) rfl
 have ha2:=hp (#[.int .i64 a0, .int .i64 a1, .int .i64 a2, .int .i64 a3, .int .i64 a4, .int .i64 a5]) ((0+1+1)*1) (.int .i64 a2) rfl
 have hb2:=hp (#[.int .i64 b0, .int .i64 b1, .int .i64 b2, .int .i64 b3, .int .i64 b4, .int .i64 b5]) ((0+1+1)*1) (.int .i64 b2) rfl
 have ha3:=hp (#[.int .i64 a0, .int .i64 a1, .int .i64 a2, .int .i64 a3, .int .i64 a4, .int .i64 a5]) ((0+1+1+1)*1) (.int .i64 a3) rfl
 have hb3:=hp (#[.int .i64 b0, .int .i64 b1, .int .i64 b2, .int .i64 b3, .int .i64 b4, .int .i64 b5]) ((0+1+1+1)*1) (.int .i64 b3) rfl
 have ha4:=hp (#[.int .i64 a0, .int .i64 a1, .int .i64 a2, .int .i64 a3, .int .i64 a4, .int .i64 a5]) ((0+1+1+1+1)*1) (.int .i64 a4) rfl
 have hb4:=hp (#[.int .i64 b0, .int .i64 b1, .int .i64 b2, .int .i64 b3, .int .i64 b4, .int .i64 b5]) ((0+1+1+1+1)*1) (.int .i64 b4) rfl
 have ha5:=hp (#[.int .i64 a0, .int .i64 a1, .int .i64 a2, .int .i64 a3, .int .i64 a4, .int .i64 a5]) ((0+1+1+1+1+1)*1) (.int .i64 a5) rfl
 have hb5:=hp (#[.int .i64 b0, .int .i64 b1, .int .i64 b2, .int .i64 b3, .int .i64 b4, .int .i64 b5]) ((0+1+1+1+1+1)*1) (.int .i64 b5) rfl
 clear hp
 generalize hd:d+1=d1 at*
 generalize hA:(#[.int .i64 a0, .int .i64 a1, .int .i64 a2, .int .i64 a3, .int .i64 a4, .int .i64 a5]:Array Value)=A at*
 generalize hB:(#[.int .i64 b0, .int .i64 b1, .int .i64 b2, .int .i64 b3, .int .i64 b4, .int .i64 b5]:Array Value)=B at*
 unfold Op.equalIn
 simp only [Sem.run_bind,run_underlying Tryz.underlying24,Result.andThen_ok,sizeB.run Dv]
 simp only [Std.Legacy.Range.forIn_eq_forIn_range',Std.Legacy.Range.size,List.range',List.forIn_cons,List.forIn_nil]
 by_cases e0:a0=b0
 rotate_left
 ·simp_all
 by_cases e1:a1=b1
 rotate_left
 ·simp_all
 by_cases e2:a2=b2
 rotate_left
 ·simp_all
 by_cases e3:a3=b3
 rotate_left
 ·simp_all
 by_cases e4:a4=b4
 rotate_left
 ·simp_all
 by_cases e5:a5=b5
 rotate_left
 ·simp_all
 ·simp_all
theorem Ak8 {t':TypeId} {o:Oper} {e:Operand→S} {h:Xh} {x y:Operand} {a0:Int} {a1:Int} {a2:Int} {a3:Int} {a4:Int} {a5:Int} {b0:Int} {b1:Int} {b2:Int} {b3:Int} {b4:Int} {b5:Int} (ho:o.op= .binOp .eql 24 x y t') (hx:e x= .d (.agg [.v (.int .i64 a0), .v (.int .i64 a1), .v (.int .i64 a2), .v (.int .i64 a3), .v (.int .i64 a4), .v (.int .i64 a5)])) (hy:e y= .d (.agg [.v (.int .i64 b0), .v (.int .i64 b1), .v (.int .i64 b2), .v (.int .i64 b3), .v (.int .i64 b4), .v (.int .i64 b5)])):Bi Tryz.prog o e h (.d (.v (.bool (decide (a0=b0∧a1=b1∧a2=b2∧a3=b3∧a4=b4∧a5=b5))))):=by
 refine Fg ho hx hy rfl rfl (by kernel_rfl) fun w=> ?_
 refine (run_eql_struct w 24 #[.int .i64 a0, .int .i64 a1, .int .i64 a2, .int .i64 a3, .int .i64 a4, .int .i64 a5] #[.int .i64 b0, .int .i64 b1, .int .i64 b2, .int .i64 b3, .int .i64 b4, .int .i64 b5]).trans ?_
 have hq:=U4 9998 w a0 a1 a2 a3 a4 a5 b0 b1 b2 b3 b4 b5
 simp only [Nat.reduceAdd] at hq
 rw [hq]
 simp only [Result.andThen_ok]
theorem Ak3 {t':TypeId} {o:Oper} {e:Operand→S} {h:Xh} {x y:Operand} {a0:Int} {a1:Int} {a2:Int} {a3:Int} {a4:Int} {a5:Int} {b0:Int} {b1:Int} {b2:Int} {b3:Int} {b4:Int} {b5:Int} (ho:o.op= .binOp .neq 24 x y t') (hx:e x= .d (.agg [.v (.int .i64 a0), .v (.int .i64 a1), .v (.int .i64 a2), .v (.int .i64 a3), .v (.int .i64 a4), .v (.int .i64 a5)])) (hy:e y= .d (.agg [.v (.int .i64 b0), .v (.int .i64 b1), .v (.int .i64 b2), .v (.int .i64 b3), .v (.int .i64 b4), .v (.int .i64 b5)])):Bi Tryz.prog o e h (.d (.v (.bool (decide (¬(a0=b0∧a1=b1∧a2=b2∧a3=b3∧a4=b4∧a5=b5)))))):=by
 refine Fg ho hx hy rfl rfl (by kernel_rfl) fun w=> ?_
 refine (run_neq_struct w 24 #[.int .i64 a0, .int .i64 a1, .int .i64 a2, .int .i64 a3, .int .i64 a4, .int .i64 a5] #[.int .i64 b0, .int .i64 b1, .int .i64 b2, .int .i64 b3, .int .i64 b4, .int .i64 b5]).trans ?_
 have hq:=U4 9998 w a0 a1 a2 a3 a4 a5 b0 b1 b2 b3 b4 b5
 simp only [Nat.reduceAdd] at hq
 rw [hq]
 simp only [Result.andThen_ok,decide_not]
end Go.Proofs.YtaafemnkamfgnaaGreat
namespace Go.Proofs.YtaafemnkamfgnaaGreat
open Go.RowKit
theorem Asb {m:Me} {k:Nat} {g:Int} (h:m.gs[k]? =some g): [dI m.g0,dI m.g1,dI m.g2,dI m.g3,dI m.g4,dI m.g5][k]? =some (dI g):=by
 have:(m.gs.map dI)[k]? =some (dI g):=by rw [List.getElem?_map,h];rfl
 exact this
def Me.flat (m:Me):Prop:=m.g0=0∧m.g1=0∧m.g2=0∧m.g3=0∧m.g4=0∧m.g5=0
instance (m:Me):Decidable m.flat:=by unfold Me.flat;exact inferInstance
def gGo (k:Nat) (s n:Int):List Int→Option (Int × Int)
 | []=>some (s,n)
 |g::r=>if g<0∨64<g∨(0<g∧(k:Int)≠n) then none else if 0<g then gGo (k+1) (s+g) (n+1) r else gGo (k+1) s n r
def gOk (c:Int) (o:Option (Int × Int)):Prop:=match o with|some p=>p.1=c∧2≤p.2|none=>False
instance (c:Int) (o:Option (Int × Int)):Decidable (gOk c o):=by unfold gOk;cases o<;>exact inferInstance
def Me.grouped (m:Me):Prop:=m.flat∨gOk m.count (gGo 0 0 0 m.gs)
instance (m:Me):Decidable m.grouped:=by unfold Me.grouped;exact inferInstance
theorem S1 {m:Me} {k:Nat} {g s n:Int} (h:m.gs[k]? =some g) (hb:g<0∨64<g∨(0<g∧(k:Int)≠n)):gGo k s n (m.gs.drop k)=none:=by rw [By h,gGo,if_pos hb]
theorem Apt {m:Me} {k:Nat} {g s n:Int} (h:m.gs[k]? =some g) (hb:¬(g<0∨64<g∨(0<g∧(k:Int)≠n))) (hg:0<g):gGo k s n (m.gs.drop k)=gGo (k+1) (s+g) (n+1) (m.gs.drop (k+1)):=by rw [By h,gGo,if_neg hb,if_pos hg]
theorem Asd {m:Me} {k:Nat} {g s n:Int} (h:m.gs[k]? =some g) (hb:¬(g<0∨64<g∨(0<g∧(k:Int)≠n))) (hg:¬0<g):gGo k s n (m.gs.drop k)=gGo (k+1) s n (m.gs.drop (k+1)):=by rw [By h,gGo,if_neg hb,if_neg hg]
theorem Apr {m:Me} (h:m.grouped):true=decide m.grouped:=by rw [decide_eq_true h]
theorem Y0 {m:Me} (h1:¬m.flat) (h:gGo 0 0 0 m.gs=none):false=decide m.grouped:=by rw [decide_eq_false];exact fun k=>k.elim h1 (by rw [h];exact fun k=>k)
theorem Aje {m:Me} (h1:¬m.flat) {s n:Int} (h:gGo 0 0 0 m.gs=some (s,n)):m.grouped↔s=m.count∧2≤n:=by
 unfold Me.grouped
 rw [h]
 exact ⟨fun k=>k.elim (fun k=>absurd k h1) fun k=>k,fun k=> .inr k⟩
theorem Age (m:Me):XC Tryz.prog 92 [.agg (Me.c m)] (fun r=>r=dB (decide m.grouped)):=by
 refine Aj Acp Tryz.func92 R R lb<|zr<|XL.step R (Aq 1 (l:= [.d (dI m.count), .d (dI m.unit), .d (dI m.g0), .d (dI m.g1), .d (dI m.g2), .d (dI m.g3), .d (dI m.g4), .d (dI m.g5)]) R R (by kernel_rfl))<|za R R<|zn<|zs<|zr<|zp (Ac R R Oy)<|?_
 refine zp (Ae (s':= .d (.agg [dI m.g0,dI m.g1,dI m.g2,dI m.g3,dI m.g4,dI m.g5])) (Aa (Ad R R Qk R lb)) (by kernel_rfl))<|zp (Ae (s':= .d (.agg [dI 0,dI 0,dI 0,dI 0,dI 0,dI 0])) (Aa (Ln R Tryz.underlying24 Dv Adt R)) (by kernel_rfl))<|zp (Ak8 R R R)<|zn<|?_
 refine zd R (fun c10=> ?_) (fun c10=> ?_)
 exact zr<|za R R<|zn<|zt<|z1 R R (rB (Apr (.inl c10)))
 refine zi<|zr<|za R R<|za R R<|zn<|zs<|zr<|zp (Ac R R Oy)<|zp (Ae (s':= .d (.agg [dI m.g0,dI m.g1,dI m.g2,dI m.g3,dI m.g4,dI m.g5])) (Aa (Ad R R Qk R lb)) (by kernel_rfl))<|zm R R<|zn<|Ah<|?_
 refine A6 (α:=Nat × Int × Int) (fun p=>p.1≤6∧gGo p.1 p.2.1 p.2.2 (m.gs.drop p.1)=gGo 0 0 0 m.gs∧0≤p.2.1∧p.2.1≤64*p.1∧0≤p.2.2∧p.2.2≤p.1) (fun p=>mkF [(1, .ptr 1 0 0),(3, .d (dI p.2.1)),(4, .d (dI p.2.2)),(12, .d (.agg [dI m.g0,dI m.g1,dI m.g2,dI m.g3,dI m.g4,dI m.g5])),(13, .d (dI p.1))]) (fun p=>mkH [(1, .box ((Me.c m).map S.d))]) (fun p=>6 - p.1) ((0,0,0)) (⟨Nat.zero_le _,R,by simp,by simp,by simp,by simp⟩) ?_ ?_ ?_
 exact fz ⟨sr,sr,sr,sr,sr,trivial⟩
 exact gz ⟨R,trivial⟩
 intro p hk0
 obtain ⟨hk,hgo,hs0,hs1,hn0,hn1⟩:=hk0
 refine zr<|zp (Ar R R R)<|zn<|zs<|?_
 refine zd R (fun c14=> ?_) (fun c14=> ?_)
 obtain ⟨g,hg⟩:∃g,m.gs[p.1]? =some g:=A3 (by show p.1<6;omega)
 refine zi<|zs<|Ah<|zr<|zm R R<|zp (Vt (k:=p.1) R R R R Tryz.underlying24 Ai Dv (by omega) (Asb hg))<|za R R<|za R R<|zn<|Ah<|zr<|zm R R<|zp (Ar R R R)<|zm R R<|?_
 refine XL.dec 20 R (fun g20=> ?_) (fun g20=> ?_)
 exact zk 2 R<|zq R R R<|zm R R<|zk 7 R<|zq R R R<|za R R<|zn<|Au (by kernel_rfl) R<|zr<|za R R<|zn<|zt<|z1 R R (rB (Y0 c10 (by rw [←hgo];exact S1 hg (by omega))))
 refine zm R R<|zp (A5 R R R)<|zq R R R<|zm R R<|?_
 refine XL.dec 24 R (fun g24=> ?_) (fun g24=> ?_)
 exact zk 7 R<|zq R R R<|za R R<|zn<|Au (by kernel_rfl) R<|zr<|za R R<|zn<|zt<|z1 R R (rB (Y0 c10 (by rw [←hgo];exact S1 hg (by omega))))
 refine zm R R<|zp (A5 R R R)<|zm R R<|?_
 refine XL.dec 27 R (fun g27=> ?_) (fun g27=> ?_)
 refine zm R R<|zm R R<|zp (As R R R)<|zq R R R<|zq R R R<|za R R<|zn<|?_
 refine zd R (fun c17=> ?_) (fun c17=> ?_)
 exact zr<|za R R<|zn<|zt<|z1 R R (rB (Y0 c10 (by rw [←hgo];exact S1 hg (by omega))))
 refine zr<|zm R R<|zp (A5 R R R)<|za R R<|zn<|?_
 refine zd R (fun c33=> ?_) (fun c33=> ?_)
 refine Af (by kernel_rfl)<|zm R R<|zm R R<|zp (Am R R R (by omega) (by omega))<|zm R R<|zp (Am R R R (by omega) (by omega))<|za R R<|za R R<|zn<|Af (by kernel_rfl)<|zp (Am R R R (by omega) (by omega))<|zm R R<|zn<|?_
 exact Ap ((p.1+1,p.2.1+g,p.2.2+1)) (⟨by simp only;omega,by rw [←Apt hg (by omega) c33];exact hgo,by simp only;omega,by simp only;omega,by simp only;omega,by simp only;omega⟩) (by simp only;omega) (fz ⟨sr,sr,sr,sr,sr,trivial⟩) (gz ⟨rfl,trivial⟩)
 refine zi<|Af (by kernel_rfl)<|zp (Am R R R (by omega) (by omega))<|zm R R<|zn<|?_
 exfalso;omega
 refine zk 3 R<|zq R R R<|zq R R R<|za R R<|zn<|Av (by kernel_rfl) R<|zr<|zm R R<|zp (A5 R R R)<|za R R<|zn<|?_
 refine zd R (fun c33=> ?_) (fun c33=> ?_)
 refine Af (by kernel_rfl)<|zm R R<|zm R R<|zp (Am R R R (by omega) (by omega))<|zm R R<|zp (Am R R R (by omega) (by omega))<|za R R<|za R R<|zn<|Af (by kernel_rfl)<|zp (Am R R R (by omega) (by omega))<|zm R R<|zn<|?_
 exfalso;omega
 refine zi<|Af (by kernel_rfl)<|zp (Am R R R (by omega) (by omega))<|zm R R<|zn<|?_
 exact Ap ((p.1+1,p.2.1,p.2.2)) (⟨by simp only;omega,by rw [←Asd hg (by omega) c33];exact hgo,by simp only;omega,by simp only;omega,by simp only;omega,by simp only;omega⟩) (by simp only;omega) (fz ⟨sr,sr,sr,sr,sr,trivial⟩) (gz ⟨rfl,trivial⟩)
 have hke:p.1=6:=by omega
 have hend:gGo 0 0 0 m.gs=some (p.2.1,p.2.2):=by rw [←hgo,hke];rfl
 refine A0<|zr<|zm R R<|zp (Ac R R Ik)<|zp (Ab R R Ai R R)<|zp (A8 R R R)<|zm R R<|?_
 refine XL.dec 46 R (fun g46=> ?_) (fun g46=> ?_)
 exact zm R R<|zp (Fz R R R)<|zq R R R<|za R R<|zn<|zt<|z1 R R (rB (by rw [decide_eq_decide,Aje c10 hend];exact ⟨fun h=>⟨g46,h⟩,fun h=>h.2⟩))
 exact zk 2 R<|zq R R R<|za R R<|zn<|zt<|z1 R R (rB (by rw [eq_comm,decide_eq_false_iff_not,Aje c10 hend];exact fun h=>g46 h.1))
def Me.pow (m:Me):Prop:=((m.unit.toNat &&& (m.unit - 1).toNat:Nat):Int)=0
instance (m:Me):Decidable m.pow:=by unfold Me.pow;exact inferInstance
def Me.err (m:Me):Int:=if m.count<1∨64<m.count then 2 else if m.unit<1∨64<m.unit∨¬m.pow then 17 else if ¬m.grouped then 19 else 0
theorem Ar4 {m:Me} (h:m.count<1∨64<m.count):2=m.err:=by rw [Me.err,if_pos h]
theorem Ali {m:Me} (h:¬(m.count<1∨64<m.count)) (h2:m.unit<1∨64<m.unit∨¬m.pow):17=m.err:=by rw [Me.err,if_neg h,if_pos h2]
theorem Aus {m:Me} (h:¬(m.count<1∨64<m.count)) (h2:¬(m.unit<1∨64<m.unit∨¬m.pow)) (h3:¬m.grouped):19=m.err:=by rw [Me.err,if_neg h,if_neg h2,if_pos h3]
theorem Aur {m:Me} (h:¬(m.count<1∨64<m.count)) (h2:¬(m.unit<1∨64<m.unit∨¬m.pow)) (h3:m.grouped):0=m.err:=by rw [Me.err,if_neg h,if_neg h2,if_neg (fun k=>k h3)]
theorem Aec {a b c:Prop} (h1:¬a) (h2:¬b) (h3:¬c):¬(a∨b∨c):=fun k=>k.elim h1 fun k=>k.elim h2 h3
theorem N6 {a b:Prop} (h1:¬a) (h2:¬b):¬(a∨b):=fun k=>k.elim h1 h2
theorem Nb (m:Me):XC Tryz.prog 53 [.agg (Me.c m)] (fun r=>r=dI m.err):=by
 refine Aj Ade Tryz.func53 R R lb<|zr<|XL.step R (Aq 1 (l:= [.d (dI m.count), .d (dI m.unit), .d (dI m.g0), .d (dI m.g1), .d (dI m.g2), .d (dI m.g3), .d (dI m.g4), .d (dI m.g5)]) R R (by kernel_rfl))<|za R R<|zn<|zs<|Ah<|zr<|zp (Ac R R Ik)<|zp (Ab R R Ai R R)<|zp (Ar R R R)<|zm R R<|?_
 refine XL.dec 7 R (fun g7=> ?_) (fun g7=> ?_)
 exact zk 3 R<|zq R R R<|za R R<|zn<|Au (by kernel_rfl) R<|zr<|za R R<|zn<|zt<|z1 R R (rI (Ar4 (.inl g7)))
 refine zp (Ac R R Ik)<|zp (Ab R R Ai R R)<|zp (A5 R R R)<|zq R R R<|za R R<|zn<|?_
 refine zd R (fun c3=> ?_) (fun c3=> ?_)
 exact zr<|za R R<|zn<|zt<|z1 R R (rI (Ar4 (.inr c3)))
 refine zr<|zp (Ac R R Km)<|zp (Ab R R Ai R R)<|zp (Ar R R R)<|zm R R<|?_
 refine XL.dec 16 R (fun g16=> ?_) (fun g16=> ?_)
 exact zk 3 R<|zq R R R<|zm R R<|zk 7 R<|zq R R R<|za R R<|zn<|Au (by kernel_rfl) R<|zr<|za R R<|zn<|zt<|z1 R R (rI (Ali (N6 g7 c3) (.inl g16)))
 refine zp (Ac R R Km)<|zp (Ab R R Ai R R)<|zp (A5 R R R)<|zq R R R<|zm R R<|?_
 refine XL.dec 21 R (fun g21=> ?_) (fun g21=> ?_)
 exact zk 7 R<|zq R R R<|za R R<|zn<|Au (by kernel_rfl) R<|zr<|za R R<|zn<|zt<|z1 R R (rI (Ali (N6 g7 c3) (.inr (.inl g21))))
 refine zp (Ac R R Km)<|zp (Ab R R Ai R R)<|zp (Ac R R Km)<|zp (Ab R R Ai R R)<|zp (Dr R R R (by omega) (by omega))<|zp (Anl R R R (by omega) (by omega) (by omega) (by omega))<|zp (As R R R)<|zq R R R<|za R R<|zn<|?_
 refine zd R (fun c12=> ?_) (fun c12=> ?_)
 exact zr<|za R R<|zn<|zt<|z1 R R (rI (Ali (N6 g7 c3) (.inr (.inr c12))))
 refine zr<|zp (Ae (s':= .d (.agg (Me.c m))) (Aa (Ad R R A7 R lb)) (by kernel_rfl))<|XL.call1 R R (Age _) R<|zp (Ey R R)<|za R R<|zn<|?_
 refine zd R (fun c30=> ?_) (fun c30=> ?_)
 exact zr<|za R R<|zn<|zt<|z1 R R (rI (Aus (N6 g7 c3) (Aec g16 g21 c12) c30))
 exact zi<|zr<|za R R<|zn<|zt<|z1 R R (rI (Aur (N6 g7 c3) (Aec g16 g21 c12) (Decidable.not_not.1 c30)))
structure Mok (m:Me):Prop where
 count:1≤m.count∧m.count≤64
 unit:1≤m.unit∧m.unit≤64
 pow:m.pow
 grp:m.grouped
theorem I4 {m:Me} (h:¬m.err≠0):Mok m:=by
 have h0:m.err=0:=by omega
 unfold Me.err at h0
 split at h0
 ·omega
 ·split at h0
  ·omega
  ·rename_i h2
   split at h0
   ·omega
   ·rename_i h3
    exact ⟨by omega,⟨by omega,by omega⟩,Decidable.not_not.1 fun k=>h2 (.inr (.inr k)),Decidable.not_not.1 h3⟩
def Me.u (m:Me):Int:=1935360 / m.unit
def Me.len (m:Me):Int:=m.count*m.u
theorem Mok.u {m:Me} (h:Mok m):1≤m.u∧m.u≤1935360:=by
 have:=h.unit
 unfold Me.u
 exact ⟨(Int.le_ediv_iff_mul_le (by omega)).2 (by omega),Int.ediv_le_self _ (by omega)⟩
theorem Mok.len {m:Me} (h:Mok m):1≤m.len∧m.len≤123863040:=by
 have h1:=h.u
 have h2:=h.count
 unfold Me.len
 have h3:1*1≤m.count*m.u:=Int.mul_le_mul h2.1 h1.1 (by omega) (by omega)
 have h4:m.count*m.u≤64*1935360:=Int.mul_le_mul h2.2 h1.2 (by omega) (by omega)
 omega
theorem Ic (m:Me) (h:Mok m):XC Tryz.prog 93 [.agg (Me.c m)] (fun r=>r=dI m.u):=by
 have hu:=h.unit
 exact Aj Aco Tryz.func93 R R lb<|zr<|XL.step R (Aq 1 (l:= [.d (dI m.count), .d (dI m.unit), .d (dI m.g0), .d (dI m.g1), .d (dI m.g2), .d (dI m.g3), .d (dI m.g4), .d (dI m.g5)]) R R (by kernel_rfl))<|za R R<|znr<|zp (Ac R R Km)<|zp (Ab R R Ai R R)<|zp (Ja R R R (by omega) (by omega) (by omega))<|za R R<|zn<|zt<|z1 R R (rI R)
theorem Lo (m:Me) (h:Mok m):XC Tryz.prog 54 [.agg (Me.c m)] (fun r=>r=dI m.len):=by
 have hu:=h.u
 have hc:=h.count
 have hl:=h.len
 have hl2:m.count*m.u=m.len:=rfl
 refine Aj Add Tryz.func54 R R lb<|zr<|XL.step R (Aq 1 (l:= [.d (dI m.count), .d (dI m.unit), .d (dI m.g0), .d (dI m.g1), .d (dI m.g2), .d (dI m.g3), .d (dI m.g4), .d (dI m.g5)]) R R (by kernel_rfl))<|za R R<|zn<|zs<|Be [] (by kernel_rfl) (by kernel_rfl) (by kernel_rfl) (by decide)<|yp (Ac R R Ik)<|yp (Ab R R Ai R R)<|?_
 refine yp (Ae (s':= .d (.agg (Me.c m))) (Aa (Ad R R A7 R lb)) (by kernel_rfl))<|ChK.cons R (CStep.call R (Ic _ (by assumption)) R)<|yp (Ll R R R (by omega) (by omega))<|ya R R<|?_
 refine ChK.nil ⟨by kernel_rfl, ?_⟩
 exact zt<|z1 R R (rI R)
end Go.Proofs.YtaafemnkamfgnaaGreat
namespace Go.Proofs.YtaafemnkamfgnaaGreat
open Go.RowKit
def I1:List Int→Int
 | []=>0
 |x::r=>r.foldl min x
def I2:List Int→Int
 | []=>0
 |x::r=>r.foldl max x
theorem Ain {l:List Int} (h:l≠ []) (x:Int):I1 (l++ [x])=min (I1 l) x:=by
 cases l with
 |nil=>exact absurd rfl h
 |cons a r=>simp only [I1,List.cons_append,List.foldl_append,List.foldl_cons,List.foldl_nil]
theorem Aiq {l:List Int} (h:l≠ []) (x:Int):I2 (l++ [x])=max (I2 l) x:=by
 cases l with
 |nil=>exact absurd rfl h
 |cons a r=>simp only [I2,List.cons_append,List.foldl_append,List.foldl_cons,List.foldl_nil]
theorem Ady {l:List Int} {k:Nat} (h:1≤k) (h2:0<l.length):l.take k≠ []:=fun e=>by
 have:=congrArg List.length e
 rw [List.length_take,List.length_nil] at this
 omega
theorem Aim {l:List Int} {k:Nat} {x:Int} (h:l[k]? =some x) (hk:1≤k):I1 (l.take (k+1))=min (I1 (l.take k)) x:=by
 rw [B1 h,Ain (Ady hk (by have:=(List.getElem?_eq_some_iff.1 h).1;omega))]
theorem Aip {l:List Int} {k:Nat} {x:Int} (h:l[k]? =some x) (hk:1≤k):I2 (l.take (k+1))=max (I2 (l.take k)) x:=by
 rw [B1 h,Aiq (Ady hk (by have:=(List.getElem?_eq_some_iff.1 h).1;omega))]
theorem Yj {l:List Int} {x:Int} (h:l[0]? =some x):I1 (l.take 1)=x∧I2 (l.take 1)=x:=by
 cases l with
 |nil=>cases h
 |cons a r=>cases h;exact ⟨rfl,rfl⟩
theorem Aoy (l:List Int) (h:0<l.length):XC Tryz.prog 181 [.sl 1 (Cg l)] (fun r=>r=dI (I1 l)):=by
 refine Aj Aac Tryz.func181 R R lb<|zr<|za R R<|zn<|zs<|zr<|zm R R<|XL.len R R R Tryz.underlying45 fun hl6=>zp (Ar R R R)<|zn<|?_
 refine zd R (fun c7=> ?_) (fun c7=> ?_)
 exfalso;omega
 refine zi<|zs<|?_
 obtain ⟨x,hx⟩:∃x,l[0]? =some x:=A3 h
 refine Af (by kernel_rfl)<|zm R R<|zp (At (k:=0) R R R Dt (hx))<|zp (Bb R R Ai)<|za R R<|zn<|zs<|zr<|za R R<|zn<|Ah<|?_
 refine A6 (α:=Nat) (fun k=>1≤k∧k≤l.length) (fun k=>mkF [(0, .d (.sl 1 (Cg l))),(2, .d (dI 0)),(3, .d (dI (I1 (l.take k)))),(4, .d (dI k))]) (fun k=>mkH []) (fun k=>l.length - k) (1) (⟨Nat.le_refl _,h⟩) ?_ ?_ ?_
 exact fz ⟨sr,sr, .same (sI (Yj hx).1.symm),sr,trivial⟩
 exact HSub.nil
 intro k hk0
 refine zs<|zr<|zm R R<|zm R R<|XL.len R R R Tryz.underlying45 fun hl14=>zp (Ar R R R)<|zn<|?_
 refine zd R (fun c15=> ?_) (fun c15=> ?_)
 obtain ⟨y,hy⟩:∃y,l[k]? =some y:=A3 (by omega)
 refine zi<|zs<|Ah<|Af (by kernel_rfl)<|zm R R<|zm R R<|zm R R<|zp (At R R R Dt (hy))<|zp (Bb R R Ai)<|zp (Ty R R R)<|za R R<|zn<|Af (by kernel_rfl)<|zm R R<|?_
 refine zp (Am R R R (by omega) (by omega))<|za R R<|zn<|?_
 exact Ap (k+1) (by omega) (by omega) (fz ⟨sr,sr, .same (sI (by rw [Aim hy (by omega)])),sr,trivial⟩) (HSub.nil)
 have ht:l.take k=l:=List.take_of_length_le (by omega)
 exact A0<|zr<|zm R R<|za R R<|zn<|zt<|z1 R R (rI (by rw [ht]))
theorem Aoz (l:List Int) (h:0<l.length):XC Tryz.prog 182 [.sl 1 (Cg l)] (fun r=>r=dI (I2 l)):=by
 refine Aj Aab Tryz.func182 R R lb<|zr<|za R R<|zn<|zs<|zr<|zm R R<|XL.len R R R Tryz.underlying45 fun hl6=>zp (Ar R R R)<|zn<|?_
 refine zd R (fun c7=> ?_) (fun c7=> ?_)
 exfalso;omega
 refine zi<|zs<|?_
 obtain ⟨x,hx⟩:∃x,l[0]? =some x:=A3 h
 refine Af (by kernel_rfl)<|zm R R<|zp (At (k:=0) R R R Dt (hx))<|zp (Bb R R Ai)<|za R R<|zn<|zs<|zr<|za R R<|zn<|Ah<|?_
 refine A6 (α:=Nat) (fun k=>1≤k∧k≤l.length) (fun k=>mkF [(0, .d (.sl 1 (Cg l))),(2, .d (dI 0)),(3, .d (dI (I2 (l.take k)))),(4, .d (dI k))]) (fun k=>mkH []) (fun k=>l.length - k) (1) (⟨Nat.le_refl _,h⟩) ?_ ?_ ?_
 exact fz ⟨sr,sr, .same (sI (Yj hx).2.symm),sr,trivial⟩
 exact HSub.nil
 intro k hk0
 refine zs<|zr<|zm R R<|zm R R<|XL.len R R R Tryz.underlying45 fun hl14=>zp (Ar R R R)<|zn<|?_
 refine zd R (fun c15=> ?_) (fun c15=> ?_)
 obtain ⟨y,hy⟩:∃y,l[k]? =some y:=A3 (by omega)
 refine zi<|zs<|Ah<|Af (by kernel_rfl)<|zm R R<|zm R R<|zm R R<|zp (At R R R Dt (hy))<|zp (Bb R R Ai)<|zp (Qr R R R)<|za R R<|zn<|Af (by kernel_rfl)<|zm R R<|?_
 refine zp (Am R R R (by omega) (by omega))<|za R R<|zn<|?_
 exact Ap (k+1) (by omega) (by omega) (fz ⟨sr,sr, .same (sI (by rw [Aip hy (by omega)])),sr,trivial⟩) (HSub.nil)
 have ht:l.take k=l:=List.take_of_length_le (by omega)
 exact A0<|zr<|zm R R<|za R R<|zn<|zt<|z1 R R (rI (by rw [ht]))
def Ir (v:Int) (k:Nat):List Int→Int
 | []=> -1
 |x::r=>if v=x then k else Ir v (k+1) r
theorem Ajb {v x:Int} {l:List Int} {k:Nat} (h:l[k]? =some x) (hv:v=x):Ir v k (l.drop k)=k:=by rw [By h,Ir,if_pos hv]
theorem Agc {v x:Int} {l:List Int} {k:Nat} (h:l[k]? =some x) (hv:¬v=x):Ir v k (l.drop k)=Ir v (k+1) (l.drop (k+1)):=by rw [By h,Ir,if_neg hv]
theorem Aja (v:Int) (l:List Int):∀k,0≤Ir v k l↔v∈l:=by
 induction l with
 |nil=>intro k;simp [Ir]
 |cons x r ih=>
  intro k
  rw [Ir]
  split
  ·rename_i h;simp [h]
  ·rename_i h;rw [ih,List.mem_cons];exact ⟨.inr,fun k=>k.elim (fun e=>absurd e h) fun e=>e⟩
theorem Ahu (l:List Int) (v:Int):XC Tryz.prog 203 [.sl 1 (Cg l), .v (.int .i64 v)] (fun r=>r=dI (Ir v 0 l)):=by
 refine Aj Zs Tryz.func203 R R lb<|zr<|za R R<|zn<|zs<|zr<|zm R R<|XL.len R R R Tryz.underlying45 fun hl7=>zm R R<|zn<|Ah<|?_
 refine A6 (α:=Nat) (fun k=>k≤l.length∧Ir v k (l.drop k)=Ir v 0 l) (fun k=>mkF [(0, .d (.sl 1 (Cg l))),(1, .d (dI v)),(7, .d (dI l.length)),(8, .d (dI k))]) (fun k=>mkH []) (fun k=>l.length - k) (0) (⟨Nat.zero_le _,by rw [List.drop_zero]⟩) ?_ ?_ ?_
 exact fz ⟨sr,sr,sr,sr,trivial⟩
 exact HSub.nil
 intro k hk0
 obtain ⟨hk,hgo⟩:=hk0
 refine zr<|zp (Ar R R R)<|zn<|zs<|?_
 refine zd R (fun c9=> ?_) (fun c9=> ?_)
 have hk0a:k<l.length:=by omega
 obtain ⟨x0,hx0⟩:=A3 hk0a
 refine zi<|zs<|Ah<|zr<|zm R R<|za R R<|znr<|zm R R<|zm R R<|zm R R<|zp (At R R R Dt hx0)<|zp (Bb R R Ai)<|zp (A8 R R R)<|zn<|?_
 refine zd R (fun c16=> ?_) (fun c16=> ?_)
 exact zr<|zm R R<|za R R<|zn<|zt<|z1 R R (rI (by rw [←hgo,Ajb hx0 c16]))
 refine zi<|Af (by kernel_rfl)<|zp (Am R R R (by omega) (by omega))<|zm R R<|zn<|?_
 exact Ap (k+1) (⟨by omega,by rw [←Agc hx0 c16];exact hgo⟩) (by omega) (fz ⟨sr,sr,sr,sr,trivial⟩) (HSub.nil)
 have hk0b:k=l.length:=by omega
 have hz:Ir v 0 l= -1:=by rw [←hgo,hk0b,List.drop_length];rfl
 exact A0<|zr<|za R R<|zn<|zt<|z1 R R (rI hz.symm)
theorem Mc (l:List Int) (v:Int):XC Tryz.prog 183 [.sl 1 (Cg l), .v (.int .i64 v)] (fun r=>r=dB (decide (v∈l))):=by
 exact Aj Aaa Tryz.func183 R R lb<|zr<|za R R<|znr<|zm R R<|zm R R<|XL.call1 R R (Ahu _ _) R<|zp (Fz R R R)<|za R R<|zn<|zt<|z1 R R (rB (by rw [decide_eq_decide];exact Aja v l 0))
end Go.Proofs.YtaafemnkamfgnaaGreat
namespace Go.Proofs.YtaafemnkamfgnaaGreat
open Go.RowKit
theorem Nu (l:List Hd) (h:l.length≤1000):XS Tryz.prog 140 [.sl 5 (l.map Hd.c)] (.own 5) [(5, .row 200 5 ((l).map Hd.c))]:=by
 refine Fq Aa9 Tryz.func140 R R lb (by kernel_rfl) (by kernel_rfl)<|zr<|za R R<|zn<|zs<|zr<|zm R R<|?_
 refine XL.eqnil R R R Tryz.underlying55 (fun hn4=> ?_) ?_
 refine zn<|Au (by kernel_rfl) R<|zr<|za R R<|zn<|Ep 5 2 200 5 R<|zt<|?_
 exact ⟨Dg R (RVS.tmp R R),HSub.cons (by rw [hn4];rfl) (HSub.nil)⟩
 refine zn<|Av (by kernel_rfl) R<|zi<|zr<|XL.step R (Bq 5 R Tryz.underlying55 Ahh Xb R R (by omega) (by omega))<|zm R R<|XL.step R (Bg R Asq (.own R) (Src.sl (by omega)) (by unfold maxLen;simp;omega) (by simp;omega))<|zp (Ay R (by conv=>lhs;whnf))<|?_
 refine zn<|zt<|?_
 exact ⟨Dg R (RVS.tmp R R),HSub.cons (R) (HSub.nil)⟩
theorem Aci (l:List Gr) (h:l.length≤1000):XS Tryz.prog 141 [.sl 5 (l.map Gr.c)] (.own 5) [(5, .row 203 5 ((l).map Gr.c))]:=by
 refine Fq Aa8 Tryz.func141 R R lb (by kernel_rfl) (by kernel_rfl)<|zr<|za R R<|zn<|zs<|zr<|zm R R<|?_
 refine XL.eqnil R R R Tryz.underlying56 (fun hn4=> ?_) ?_
 refine zn<|Au (by kernel_rfl) R<|zr<|za R R<|zn<|Ep 5 2 203 5 R<|zt<|?_
 exact ⟨Dg R (RVS.tmp R R),HSub.cons (by rw [hn4];rfl) (HSub.nil)⟩
 refine zn<|Av (by kernel_rfl) R<|zi<|zr<|XL.step R (Bq 5 R Tryz.underlying56 Ahg Xa R R (by omega) (by omega))<|zm R R<|XL.step R (Bg R Asp (.own R) (Src.sl (by omega)) (by unfold maxLen;simp;omega) (by simp;omega))<|zp (Ay R (by conv=>lhs;whnf))<|?_
 refine zn<|zt<|?_
 exact ⟨Dg R (RVS.tmp R R),HSub.cons (R) (HSub.nil)⟩
theorem Ach (l:List Sy) (h:l.length≤1000):XS Tryz.prog 142 [.sl 2 (l.map Sy.c)] (.own 5) [(5, .row 171 2 ((l).map Sy.c))]:=by
 refine Fq Aa7 Tryz.func142 R R lb (by kernel_rfl) (by kernel_rfl)<|zr<|za R R<|zn<|zs<|zr<|zm R R<|?_
 refine XL.eqnil R R R Tryz.underlying57 (fun hn4=> ?_) ?_
 refine zn<|Au (by kernel_rfl) R<|zr<|za R R<|zn<|Ep 5 2 171 2 R<|zt<|?_
 exact ⟨Dg R (RVS.tmp R R),HSub.cons (by rw [hn4];rfl) (HSub.nil)⟩
 refine zn<|Av (by kernel_rfl) R<|zi<|zr<|XL.step R (Bq 5 R Tryz.underlying57 Ahi R7 R R (by omega) (by omega))<|zm R R<|XL.step R (Bg R Aso (.own R) (Src.sl (by omega)) (by unfold maxLen;simp;omega) (by simp;omega))<|zp (Ay R (by conv=>lhs;whnf))<|?_
 refine zn<|zt<|?_
 exact ⟨Dg R (RVS.tmp R R),HSub.cons (R) (HSub.nil)⟩
theorem Zh (l:List Int) (h:l.length≤1000):XS Tryz.prog 200 [.sl 1 (l.map iv)] (.own 5) [(5, .row 3 1 ((l).map iv))]:=by
 refine Fq Zv Tryz.func200 R R lb (by kernel_rfl) (by kernel_rfl)<|zr<|za R R<|zn<|zs<|zr<|zm R R<|?_
 refine XL.eqnil R R R Tryz.underlying45 (fun hn4=> ?_) ?_
 refine zn<|Au (by kernel_rfl) R<|zr<|za R R<|zn<|Ep 5 2 3 1 R<|zt<|?_
 exact ⟨Dg R (RVS.tmp R R),HSub.cons (by rw [hn4];rfl) (HSub.nil)⟩
 refine zn<|Av (by kernel_rfl) R<|zi<|zr<|XL.step R (Bq 5 R Tryz.underlying45 Dv Hn R R (by omega) (by omega))<|zm R R<|XL.step R (Bg R P9 (.own R) (Src.sl (by omega)) (by unfold maxLen;simp;omega) (by simp;omega))<|zp (Ay R (by conv=>lhs;whnf))<|?_
 refine zn<|zt<|?_
 exact ⟨Dg R (RVS.tmp R R),HSub.cons (R) (HSub.nil)⟩
def H1 {α:Type} (f:α→α) (l:List α) (k:Nat):List α:=(l.take k).map f++l.drop k
theorem T5 {α:Type} (f:α→α) (l:List α):l=H1 f l 0:=by simp [H1]
theorem V7 {α:Type} {f:α→α} {l:List α} {k:Nat} (h:l.length≤k):H1 f l k=l.map f:=by rw [H1,List.take_of_length_le h,List.drop_eq_nil_of_le h,List.append_nil]
theorem V5 {α:Type} (f:α→α) (l:List α) (k:Nat):(H1 f l k).length=l.length:=by rw [H1,List.length_append,List.length_map,List.length_take,List.length_drop];omega
theorem V6 {α:Type} {f:α→α} {l:List α} {k:Nat} {x:α} (h:l[k]? =some x):(H1 f l k)[k]? =some x:=by
 have hk:=(List.getElem?_eq_some_iff.1 h).1
 rw [H1,List.getElem?_append_right (by rw [List.length_map,List.length_take];omega),List.length_map,List.length_take,Nat.min_eq_left (by omega),Nat.sub_self,List.getElem?_drop]
 exact h
theorem V4 {α:Type} {f:α→α} {l:List α} {k:Nat} {x:α} (h:l[k]? =some x):H1 f l (k+1)=(H1 f l k).set k (f x):=by
 have hk:=(List.getElem?_eq_some_iff.1 h).1
 have hl:((l.take k).map f).length=k:=by rw [List.length_map,List.length_take];omega
 rw [H1,H1,B1 h,List.map_append,List.set_append_right _ _ (by omega),hl,Nat.sub_self,By h,List.set_cons_zero,List.append_assoc]
 rfl
def Hd.tie (h:Hd):Hd:=⟨h.p,true,h.sh⟩
def Hd.plain (h:Hd):Hd:=⟨h.p,h.tied,0⟩
theorem Pf (l:List Hd) (h:l.length≤1000):XC Tryz.prog 136 [.sl 5 (l.map Hd.c)] (fun r=>r= .sl 5 ((l.map Hd.tie).map Hd.c)):=by
 refine Aj Abd Tryz.func136 R R lb<|zr<|za R R<|znr<|zm R R<|XL.callS R R ((Nu _ (by omega)).lab 7001) R<|zp (Ay R (by conv=>lhs;whnf))<|?_
 refine zn<|zs<|zr<|zp (Aw R (by conv=>lhs;whnf))<|?_
 refine zp (Ck R R R Tryz.underlying55)<|zm R R<|zn<|Ah<|?_
 refine A6 (α:=Nat) (fun k=>k≤l.length) (fun k=>mkF [(0, .own 7001),(2, .d (.v (.slice none 0 0))),(6, .own 7001),(7, .d (dI l.length)),(8, .d (dI k))]) (fun k=>mkH [(7001, .row 200 5 ((H1 Hd.tie l k).map Hd.c))]) (fun k=>l.length - k) (0) (Nat.zero_le _) ?_ ?_ ?_
 exact fz ⟨sr,sr,sr,sr,sr,trivial⟩
 exact gz ⟨by rw [←T5];rfl,trivial⟩
 intro k hk0
 refine zr<|zp (Ar R R R)<|zn<|zs<|?_
 refine zd R (fun c9=> ?_) (fun c9=> ?_)
 have hkl:k<l.length:=by omega
 obtain ⟨x,hx⟩:=A3 hkl
 have hml:=V5 Hd.tie l k
 have hg:=V6 (f:=Hd.tie) hx
 refine zi<|zs<|Ah<|zr<|zm R R<|za R R<|zng<|zp (Aw R (by conv=>lhs;whnf))<|?_
 refine zm R R<|zp (Jz R R R R Ud (by omega))<|zp (Ac R R Ajj)<|XL.step R (F4 R R R (Dw hg) R R Aui R lb)<|zn<|Af (by kernel_rfl)<|zp (Am R R R (by omega) (by omega))<|zm R R<|zn<|?_
 exact Ap (k+1) (by omega) (by omega) (fz ⟨sr,sr,sr,sr,sr,trivial⟩) (gz ⟨Sd (a:=Hd.tie x) R (V4 hx),trivial⟩)
 have he:=V7 (f:=Hd.tie) (l:=l) (k:=k) (by omega)
 refine A0<|zr<|zp (Aw R (by conv=>lhs;whnf))<|?_
 refine zp (Ay R (by conv=>lhs;whnf))<|?_
 exact zn<|zt<|B6 (i:=7001) R<|z1 R R (rSl he)
theorem O8 (l:List Hd) (h:l.length≤1000):XC Tryz.prog 135 [.sl 5 (l.map Hd.c)] (fun r=>r= .sl 5 ((l.map Hd.plain).map Hd.c)):=by
 refine Aj Abe Tryz.func135 R R lb<|zr<|za R R<|znr<|zm R R<|XL.callS R R ((Nu _ (by omega)).lab 7001) R<|zp (Ay R (by conv=>lhs;whnf))<|?_
 refine zn<|zs<|zr<|zp (Aw R (by conv=>lhs;whnf))<|?_
 refine zp (Ck R R R Tryz.underlying55)<|zm R R<|zn<|Ah<|?_
 refine A6 (α:=Nat) (fun k=>k≤l.length) (fun k=>mkF [(0, .own 7001),(2, .d (.v (.slice none 0 0))),(6, .own 7001),(7, .d (dI l.length)),(8, .d (dI k))]) (fun k=>mkH [(7001, .row 200 5 ((H1 Hd.plain l k).map Hd.c))]) (fun k=>l.length - k) (0) (Nat.zero_le _) ?_ ?_ ?_
 exact fz ⟨sr,sr,sr,sr,sr,trivial⟩
 exact gz ⟨by rw [←T5];rfl,trivial⟩
 intro k hk0
 refine zr<|zp (Ar R R R)<|zn<|zs<|?_
 refine zd R (fun c9=> ?_) (fun c9=> ?_)
 have hkl:k<l.length:=by omega
 obtain ⟨x,hx⟩:=A3 hkl
 have hml:=V5 Hd.plain l k
 have hg:=V6 (f:=Hd.plain) hx
 refine zi<|zs<|Ah<|zr<|zm R R<|za R R<|zng<|zp (Aw R (by conv=>lhs;whnf))<|?_
 refine zm R R<|zp (Jz R R R R Ud (by omega))<|zp (Ac R R Wj)<|XL.step R (F4 R R R (Dw hg) R R Dv R lb)<|zn<|Af (by kernel_rfl)<|zp (Am R R R (by omega) (by omega))<|zm R R<|zn<|?_
 exact Ap (k+1) (by omega) (by omega) (fz ⟨sr,sr,sr,sr,sr,trivial⟩) (gz ⟨Sd (a:=Hd.plain x) R (V4 hx),trivial⟩)
 have he:=V7 (f:=Hd.plain) (l:=l) (k:=k) (by omega)
 refine A0<|zr<|zp (Aw R (by conv=>lhs;whnf))<|?_
 refine zp (Ay R (by conv=>lhs;whnf))<|?_
 exact zn<|zt<|B6 (i:=7001) R<|z1 R R (rSl he)
end Go.Proofs.YtaafemnkamfgnaaGreat
namespace Go.Proofs.YtaafemnkamfgnaaGreat
open Go.RowKit
def Ev.fit (e:Ev):Prop:=e.heads.length≤1000∧e.graces.length≤1000∧e.lyr.length≤1000
theorem Qa (e:Ev) (h:e.fit):XC Tryz.prog 111 [.agg (Ev.c e)] (fun r=>r= .agg (Ev.c e)):=by
 obtain ⟨h1,h2,h3⟩:=h
 refine Aj Abn Tryz.func111 R R lb<|zr<|XL.step R (Aq 1 (l:= [.d (dI e.site), .d (dI e.num), .d (dI e.kind), .d (dI e.v.log), .d (dI e.v.dots), .d (.sl 5 (e.heads.map Hd.c)), .d (.sl 5 (e.graces.map Gr.c)), .d (dI e.art), .d (dI e.orn), .d (dI e.dyn), .d (.sl 2 (e.lyr.map Sy.c)), .d (dI e.stem), .d (dI e.beam)]) R R (by kernel_rfl))<|?_
 refine XL.step R (Al 2 (l:= [.d (dI 0), .d (dI 0), .d (dI 0), .d (dI 0), .d (dI 0), .d (.v (.slice none 0 0)), .d (.v (.slice none 0 0)), .d (dI 0), .d (dI 0), .d (dI 0), .d (.v (.slice none 0 0)), .d (dI 0), .d (dI 0)]) R B3 (by kernel_rfl))<|zn<|zs<|Dn 10 [7001,7002,7003] (by kernel_rfl) (by kernel_rfl) (by kernel_rfl) (by kernel_rfl) (by decide)<|yp (Ac R R D1)<|?_
 refine yp (Ab R R I9 R R)<|ChK.cons R (CStep.callS R ((Nu _ (by omega)).lab 7001) R (Gl (by kernel_rfl)))<|yp (Ac R R Kl)<|yp (Ab R R Tr R R)<|ChK.cons R (CStep.callS R ((Aci _ (by omega)).lab 7002) R (Gl (by kernel_rfl)))<|yp (Ac R R Kj)<|yp (Ab R R Tq R R)<|?_
 refine ChK.cons R (CStep.callS R ((Ach _ (by omega)).lab 7003) R (Gl (by kernel_rfl)))<|yp (Ac R R D1)<|?_
 refine ChK.nil ⟨by kernel_rfl, ?_⟩
 refine XL.step R (Ag (l':= [.d (dI e.site), .d (dI e.num), .d (dI e.kind), .d (dI e.v.log), .d (dI e.v.dots), .own 7001, .d (.sl 5 (e.graces.map Gr.c)), .d (dI e.art), .d (dI e.orn), .d (dI e.dyn), .d (.sl 2 (e.lyr.map Sy.c)), .d (dI e.stem), .d (dI e.beam)]) R R R R Qn R lb (by kernel_rfl))<|zp (Ac R R Kl)<|?_
 refine XL.step R (Ag (l':= [.d (dI e.site), .d (dI e.num), .d (dI e.kind), .d (dI e.v.log), .d (dI e.v.dots), .own 7001, .own 7002, .d (dI e.art), .d (dI e.orn), .d (dI e.dyn), .d (.sl 2 (e.lyr.map Sy.c)), .d (dI e.stem), .d (dI e.beam)]) R R R R Ati R lb (by kernel_rfl))<|zp (Ac R R Kj)<|?_
 refine XL.step R (Ag (l':= [.d (dI e.site), .d (dI e.num), .d (dI e.kind), .d (dI e.v.log), .d (dI e.v.dots), .own 7001, .own 7002, .d (dI e.art), .d (dI e.orn), .d (dI e.dyn), .own 7003, .d (dI e.stem), .d (dI e.beam)]) R R R R Ath R lb (by kernel_rfl))<|znr<|zp (Aa (Ad R R Bz R lb))<|?_
 refine XL.step R (Ag (l':= [.d (dI e.site), .d (dI e.num), .d (dI e.kind), .d (dI e.v.log), .d (dI e.v.dots), .own 7001, .own 7002, .d (dI e.art), .d (dI e.orn), .d (dI e.dyn), .own 7003, .d (dI e.stem), .d (dI e.beam)]) R R R R C7 R lb (by kernel_rfl))<|zn<|zt<|B6 (i:=7001) R<|B6 (i:=7002) R<|B6 (i:=7003) R<|?_
 exact Iz R (RV.cells R R R Bz lb R) (R)
def Ev.eqv (a b:Ev):Prop:=(a.site=b.site∧a.num=b.num)∧a.same b
instance (a b:Ev):Decidable (a.eqv b):=by unfold Ev.eqv;exact inferInstance
theorem Ajw (a b:Ev):XC Tryz.prog 109 [.agg (Ev.c a), .agg (Ev.c b)] (fun r=>r=dB (decide (a.eqv b))):=by
 refine Aj Abp Tryz.func109 R R lb<|zr<|XL.step R (Aq 2 (l:= [.d (dI a.site), .d (dI a.num), .d (dI a.kind), .d (dI a.v.log), .d (dI a.v.dots), .d (.sl 5 (a.heads.map Hd.c)), .d (.sl 5 (a.graces.map Gr.c)), .d (dI a.art), .d (dI a.orn), .d (dI a.dyn), .d (.sl 2 (a.lyr.map Sy.c)), .d (dI a.stem), .d (dI a.beam)]) R R (by kernel_rfl))<|?_
 refine XL.step R (Aq 3 (l:= [.d (dI b.site), .d (dI b.num), .d (dI b.kind), .d (dI b.v.log), .d (dI b.v.dots), .d (.sl 5 (b.heads.map Hd.c)), .d (.sl 5 (b.graces.map Gr.c)), .d (dI b.art), .d (dI b.orn), .d (dI b.dyn), .d (.sl 2 (b.lyr.map Sy.c)), .d (dI b.stem), .d (dI b.beam)]) R R (by kernel_rfl))<|za R R<|znr<|zp (Ac R R Mq)<|?_
 refine zp (Ae (s':= .d (.agg [dI a.site,dI a.num])) (Aa (Ad R R My R lb)) (by kernel_rfl))<|zp (Ac R R Mq)<|zp (Ae (s':= .d (.agg [dI b.site,dI b.num])) (Aa (Ad R R My R lb)) (by kernel_rfl))<|zp (Ak9 R R R)<|zm R R<|?_
 refine XL.dec 10 R (fun g10=> ?_) (fun g10=> ?_)
 exact zp (Ae (s':= .d (.agg (Ev.c a))) (Aa (Ad R R Bz R lb)) (by kernel_rfl))<|zp (Ae (s':= .d (.agg (Ev.c b))) (Aa (Ad R R Bz R lb)) (by kernel_rfl))<|XL.call1 R R (Ad6 _ _) R<|zq R R R<|za R R<|zn<|zt<|z1 R R (rB (by rw [decide_eq_decide];exact ⟨fun h=>⟨g10,h⟩,fun h=>h.2⟩))
 exact zk 3 R<|zq R R R<|za R R<|zn<|zt<|z1 R R (rB (by rw [eq_comm,decide_eq_false_iff_not];exact fun h=>g10 h.1))
structure Vo.fit (v:Vo):Prop where
 evs:v.evs.length≤1000
 tups:v.tups.length≤1000
 ev:∀e∈v.evs,e.fit
theorem K1 (v:Vo) (h:v.fit):XC Tryz.prog 82 [.agg (Vo.c v)] (fun r=>r= .agg (Vo.c v)):=by
 have h1:=h.evs
 have h2:=h.tups
 refine Aj R1 Tryz.func82 R R lb<|zr<|XL.step R (Aq 1 (l:= [.d (.sl 13 (v.evs.map Ev.c)), .d (.sl 4 (v.tups.map Tp.c))]) R R (by kernel_rfl))<|XL.step R (Al 2 (l:= [.d (.v (.slice none 0 0)), .d (.v (.slice none 0 0))]) R Bc (by kernel_rfl))<|znr<|XL.step R (Al 3 (l:= [.d (.v (.slice none 0 0)), .d (.v (.slice none 0 0))]) R Bc (by kernel_rfl))<|zn<|zs<|zr<|?_
 refine zp (Ac R R B2)<|zp (Ab R R De R R)<|XL.len R R R Tryz.underlying79 fun hl8=>zm R R<|zn<|Ah<|E6 900 3 0 59 13 (l':= [.own 900, .d (.v (.slice none 0 0))]) R R (by decide) (by kernel_rfl)<|?_
 refine A6 (α:=Nat) (fun k=>k≤v.evs.length) (fun k=>mkF [(1, .ptr 1 0 0),(2, .ptr 2 0 0),(3, .ptr 3 0 0),(7, .d (.sl 13 (v.evs.map Ev.c))),(8, .d (dI v.evs.length)),(9, .d (dI k))]) (fun k=>mkH [(1, .box ((Vo.c v).map S.d)),(2, .box [.d (.v (.slice none 0 0)), .d (.v (.slice none 0 0))]),(3, .box [.own 900, .d (.v (.slice none 0 0))]),(900, .row 59 13 ((v.evs.take k).map Ev.c))]) (fun k=>v.evs.length - k) (0) (Nat.zero_le _) ?_ ?_ ?_
 exact fz ⟨sr,sr,sr,sr,sr,sr,trivial⟩
 exact gz ⟨R,R,R,R,trivial⟩
 intro k hk0
 refine zr<|zp (Ar R R R)<|zn<|zs<|?_
 refine zd R (fun c10=> ?_) (fun c10=> ?_)
 have hk0a:k<v.evs.length:=by omega
 obtain ⟨x0,hx0⟩:=A3 hk0a
 have hf:=h.ev x0 (List.mem_of_getElem? hx0)
 have htl:(v.evs.take k).length=k:=by rw [List.length_take];omega
 refine zi<|zs<|Ah<|zr<|zp (At R R R Hm hx0)<|zp (Ae (s':= .d (.agg (Ev.c x0))) (A9 R R Bz lb) (by kernel_rfl))<|XL.step R (Al 5 (l:= [.d (dI 0), .d (dI 0), .d (dI 0), .d (dI 0), .d (dI 0), .d (.v (.slice none 0 0)), .d (.v (.slice none 0 0)), .d (dI 0), .d (dI 0), .d (dI 0), .d (.v (.slice none 0 0)), .d (dI 0), .d (dI 0)]) R B3 (by kernel_rfl))<|?_
 refine XL.step R (Ag (l':= [.d (dI x0.site), .d (dI x0.num), .d (dI x0.kind), .d (dI x0.v.log), .d (dI x0.v.dots), .d (.sl 5 (x0.heads.map Hd.c)), .d (.sl 5 (x0.graces.map Gr.c)), .d (dI x0.art), .d (dI x0.orn), .d (dI x0.dyn), .d (.sl 2 (x0.lyr.map Sy.c)), .d (dI x0.stem), .d (dI x0.beam)]) R R R R C7 R lb (by kernel_rfl))<|zn<|?_
 refine Dn 5 [] (by kernel_rfl) (by kernel_rfl) (by kernel_rfl) (by kernel_rfl) (by decide)<|yp (Ac R R B2)<|yp (Ab R R De R R)<|yp (Ae (s':= .d (.agg (Ev.c x0))) (Aa (Ad R R Bz R lb)) (by kernel_rfl))<|ChK.cons R (CStep.call R (Qa _ (by assumption)) R)<|ChK.cons R (CStep.slice R Tryz.underlying79 C7 B3 R R (by omega) (by omega))<|?_
 refine ChK.nil ⟨by kernel_rfl, ?_⟩
 refine XL.step R (Bg R G4 (.own R) (Src.sl (by omega)) (by unfold maxLen;simp;omega) (by simp;omega))<|zp (Ac R R B2)<|XL.step R (Ag (l':= [.own 900, .d (.v (.slice none 0 0))]) R R R R Tl R lb (by kernel_rfl))<|zn<|Af (by kernel_rfl)<|zp (Am R R R (by omega) (by omega))<|zm R R<|zn<|?_
 exact Ap (k+1) (by omega) (by omega) (fz ⟨sr,sr,sr,sr,sr,sr,trivial⟩) (gz ⟨R,R,R,H6 R (B1 hx0),trivial⟩)
 have hk0b:k=v.evs.length:=by omega
 have ht:v.evs.take k=v.evs:=by rw [hk0b,List.take_length]
 refine A0<|zr<|zp (Ac R R Cn)<|zp (Ab R R Cc R R)<|zp (Ac R R Cn)<|zp (Ab R R Cc R R)<|XL.step R (Bg R Gp (.nil 25 _ _) (Src.sl (by omega)) (by unfold maxLen;simp;omega) (by simp;omega))<|zp (Ac R R Cn)<|XL.step R (Ag (l':= [.own 900, .own 25]) R R R R G0 R lb (by kernel_rfl))<|znr<|?_
 refine zp (Aa (Ad R R Ax R lb))<|XL.step R (Ag (l':= [.own 900, .own 25]) R R R R Bp R lb (by kernel_rfl))<|zn<|zt<|B6 (i:=900) R<|B6 (i:=25) R<|?_
 exact Iz R (RV.cells R R R Ax lb R) (by rw [ht];rfl)
end Go.Proofs.YtaafemnkamfgnaaGreat
namespace Go.Proofs.YtaafemnkamfgnaaGreat
open Go.RowKit
def Ev.further (x:Ev):Ev:=⟨0,0,x.kind,⟨0,0⟩,x.heads.map Hd.plain, [],0,0,0, [],x.stem,0⟩
def Ev.put (y:Ev) (v:Val) (t:Bool):Ev:=⟨y.site,y.num,y.kind,v,if t then y.heads.map Hd.tie else y.heads,y.graces,y.art,y.orn,y.dyn,y.lyr,y.stem,y.beam⟩
def Fl (x:Ev) (n:Nat) (fu:Bool) (i:Nat) (v:Val):Ev:=(if 0<(i:Int)∨fu=true then x.further else x).put v (decide ((i:Int)+1<(n:Int)))
def Bu (x:Ev) (vs:List Val) (fu:Bool):List Ev:=vs.mapIdx (Fl x vs.length fu)
def J4 (x:Ev) (vs:List Val) (fu:Bool) (k:Nat):List Ev:=(vs.take k).mapIdx (Fl x vs.length fu)
theorem Ht {x:Ev} {vs:List Val} {fu:Bool} {k:Nat} {v:Val} (h:vs[k]? =some v) {y:Ev} (hy:Fl x vs.length fu k v=y):J4 x vs fu (k+1)=J4 x vs fu k++ [y]:=by
 have hk:=(List.getElem?_eq_some_iff.1 h).1
 rw [J4,B1 h,List.mapIdx_append, ←hy]
 simp [J4,List.length_take,Nat.min_eq_left (Nat.le_of_lt hk)]
theorem Aih {x:Ev} {n i:Nat} {fu:Bool} {v:Val} (h:0<(i:Int)∨fu=true) (h2:(i:Int)+1<(n:Int)):Fl x n fu i v=x.further.put v true:=by rw [Fl,if_pos h,decide_eq_true h2]
theorem Aig {x:Ev} {n i:Nat} {fu:Bool} {v:Val} (h:0<(i:Int)∨fu=true) (h2:¬(i:Int)+1<(n:Int)):Fl x n fu i v=x.further.put v false:=by rw [Fl,if_pos h,decide_eq_false h2]
theorem Ar1 {x:Ev} {n i:Nat} {fu:Bool} {v:Val} (h:¬0<(i:Int)) (h':fu=false) (h2:(i:Int)+1<(n:Int)):Fl x n fu i v=x.put v true:=by rw [Fl,if_neg (by rw [h'];simp;omega),decide_eq_true h2]
theorem Ar0 {x:Ev} {n i:Nat} {fu:Bool} {v:Val} (h:¬0<(i:Int)) (h':fu=false) (h2:¬(i:Int)+1<(n:Int)):Fl x n fu i v=x.put v false:=by rw [Fl,if_neg (by rw [h'];simp;omega),decide_eq_false h2]
theorem Mj (x:Ev) (vs:List Val) (fu:Bool) (h:x.fit) (hv:vs.length≤3000):XS Tryz.prog 105 [.agg (Ev.c x), .sl 2 (vs.map Val.c), .v (.bool fu)] (.own 900) [(900, .row 59 13 ((Bu x vs fu).map Ev.c))]:=by
 have hf:=h
 have hf1:=h.1
 refine Fq Abr Tryz.func105 R R lb (by kernel_rfl) (by kernel_rfl)<|zr<|XL.step R (Aq 3 (l:= [.d (dI x.site), .d (dI x.num), .d (dI x.kind), .d (dI x.v.log), .d (dI x.v.dots), .d (.sl 5 (x.heads.map Hd.c)), .d (.sl 5 (x.graces.map Gr.c)), .d (dI x.art), .d (dI x.orn), .d (dI x.dyn), .d (.sl 2 (x.lyr.map Sy.c)), .d (dI x.stem), .d (dI x.beam)]) R R (by kernel_rfl))<|za R R<|znr<|?_
 refine za R R<|zn<|zs<|zr<|zm R R<|XL.len R R R Tryz.underlying159 fun hl12=>zm R R<|zn<|Ah<|Ep 900 7 59 13 R<|?_
 refine A6 (α:=Nat) (fun k=>k≤vs.length) (fun k=>mkF [(1, .d (.sl 2 (vs.map Val.c))),(2, .d (dB fu)),(3, .ptr 3 0 0),(6, .d (.v (.slice none 0 0))),(7, .own 900),(11, .d (.sl 2 (vs.map Val.c))),(12, .d (dI vs.length)),(13, .d (dI k))]) (fun k=>mkH [(3, .box ((Ev.c x).map S.d)),(900, .row 59 13 ((J4 x vs fu k).map Ev.c))]) (fun k=>vs.length - k) (0) (Nat.zero_le _) ?_ ?_ ?_
 exact fz ⟨sr,sr,sr,sr,sr,sr,sr,sr,trivial⟩
 exact gz ⟨R,R,trivial⟩
 intro k hk0
 refine zr<|zp (Ar R R R)<|zn<|zs<|?_
 refine zd R (fun c14=> ?_) (fun c14=> ?_)
 have hk0a:k<vs.length:=by omega
 obtain ⟨x0,hx0⟩:=A3 hk0a
 have hnl:(J4 x vs fu k).length=k:=by rw [J4,List.length_mapIdx,List.length_take];omega
 have hpl:(x.heads.map Hd.plain).length≤1000:=by rw [List.length_map];exact hf1
 refine zi<|zs<|Ah<|zr<|zm R R<|zp (At R R R Ast hx0)<|zp (Ae (s':= .d (.agg (Val.c x0))) (A9 R R Ek lb) (by kernel_rfl))<|XL.step R (Al 9 (l:= [.d (dI 0), .d (dI 0)]) R Fp (by kernel_rfl))<|za R R<|XL.step R (Ag (l':= [.d (dI x0.log), .d (dI x0.dots)]) R R R R Hc R lb (by kernel_rfl))<|znr<|?_
 refine zp (Ae (s':= .d (.agg (Ev.c x))) (Aa (Ad R R Bz R lb)) (by kernel_rfl))<|XL.call1 R R (Qa _ (by assumption)) R<|XL.step R (Al 10 (l:= [.d (dI 0), .d (dI 0), .d (dI 0), .d (dI 0), .d (dI 0), .d (.v (.slice none 0 0)), .d (.v (.slice none 0 0)), .d (dI 0), .d (dI 0), .d (dI 0), .d (.v (.slice none 0 0)), .d (dI 0), .d (dI 0)]) R B3 (by kernel_rfl))<|?_
 refine XL.step R (Ag (l':= [.d (dI x.site), .d (dI x.num), .d (dI x.kind), .d (dI x.v.log), .d (dI x.v.dots), .d (.sl 5 (x.heads.map Hd.c)), .d (.sl 5 (x.graces.map Gr.c)), .d (dI x.art), .d (dI x.orn), .d (dI x.dyn), .d (.sl 2 (x.lyr.map Sy.c)), .d (dI x.stem), .d (dI x.beam)]) R R R R C7 R lb (by kernel_rfl))<|zn<|zs<|zr<|zm R R<|zp (A5 R R R)<|zm R R<|?_
 refine XL.dec 22 R (fun g22=> ?_) (fun g22=> ?_)
 refine XL.skip R<|zq R R R<|zn<|Au (by kernel_rfl) R<|Dn 7 [] (by kernel_rfl) (by kernel_rfl) (by kernel_rfl) (by kernel_rfl) (by decide)<|yp (Ac R R Dk)<|yp (Ab R R Ai R R)<|yp (Ac R R Ij)<|yp (Ab R R Ai R R)<|yp (Ac R R D1)<|yp (Ab R R I9 R R)<|ChK.cons R (CStep.call R (O8 _ (by omega)) R)<|?_
 refine ChK.nil ⟨by kernel_rfl, ?_⟩
 refine zp (Ae (s':= .d (.agg [dI 0,dI 0,dI x.kind,dI 0,dI 0, .sl 5 ((x.heads.map Hd.plain).map Hd.c), .v (.slice none 0 0),dI 0,dI 0,dI 0, .v (.slice none 0 0),dI x.stem,dI 0])) (Aa (Ao R K3 B3 R)) (by kernel_rfl))<|?_
 refine XL.step R (Ag (l':= [.d (dI 0), .d (dI 0), .d (dI x.kind), .d (dI 0), .d (dI 0), .d (.sl 5 ((x.heads.map Hd.plain).map Hd.c)), .d (.v (.slice none 0 0)), .d (dI 0), .d (dI 0), .d (dI 0), .d (.v (.slice none 0 0)), .d (dI x.stem), .d (dI 0)]) R R R R C7 R lb (by kernel_rfl))<|znr<|zp (Ae (s':= .d (.agg (Val.c x0))) (Aa (Ad R R Ek R lb)) (by kernel_rfl))<|?_
 refine zp (Ac R R Hl)<|XL.step R (Ag (l':= [.d (dI 0), .d (dI 0), .d (dI x.kind), .d (dI x0.log), .d (dI x0.dots), .d (.sl 5 ((x.heads.map Hd.plain).map Hd.c)), .d (.v (.slice none 0 0)), .d (dI 0), .d (dI 0), .d (dI 0), .d (.v (.slice none 0 0)), .d (dI x.stem), .d (dI 0)]) R R R R Hc R lb (by kernel_rfl))<|zn<|zs<|zr<|zm R R<|zp (Am R R R (by omega) (by omega))<|zm R R<|?_
 refine XL.len R R R Tryz.underlying159 fun hl38=>zp (Ar R R R)<|zn<|?_
 refine zd R (fun c39=> ?_) (fun c39=> ?_)
 refine Af (by kernel_rfl)<|zp (Ac R R D1)<|zp (Ab R R I9 R R)<|XL.call1 R R (Pf _ (by omega)) R<|zp (Ac R R D1)<|?_
 refine XL.step R (Ag (l':= [.d (dI 0), .d (dI 0), .d (dI x.kind), .d (dI x0.log), .d (dI x0.dots), .d (.sl 5 (((x.heads.map Hd.plain).map Hd.tie).map Hd.c)), .d (.v (.slice none 0 0)), .d (dI 0), .d (dI 0), .d (dI 0), .d (.v (.slice none 0 0)), .d (dI x.stem), .d (dI 0)]) R R R R Qn R lb (by kernel_rfl))<|zng<|zp (Aw R (by conv=>lhs;whnf))<|?_
 refine zp (Ae (s':= .d (.agg [dI 0,dI 0,dI x.kind,dI x0.log,dI x0.dots, .sl 5 (((x.heads.map Hd.plain).map Hd.tie).map Hd.c), .v (.slice none 0 0),dI 0,dI 0,dI 0, .v (.slice none 0 0),dI x.stem,dI 0])) (Aa (Ad R R Bz R lb)) (by kernel_rfl))<|XL.step R (Bq 46 R Tryz.underlying79 C7 B3 R R (by omega) (by omega))<|?_
 refine XL.row1 (i:=46) R (.cons (.same R) (.cons (.same R) (.cons (.same R) (.cons (.same R) (.cons (.same R) (.cons (.same R) (.cons (.nil 5) (.cons (.same R) (.cons (.same R) (.cons (.same R) (.cons (.nil 2) (.cons (.same R) (.cons (.same R) (.nil))))))))))))))<|XL.step R (Bg R G4 (.own R) (Src.own R) (by unfold maxLen;simp;omega) (by simp;omega))<|?_
 refine zp (Ay R (by conv=>lhs;whnf))<|?_
 refine zn<|Af (by kernel_rfl)<|zp (Am R R R (by omega) (by omega))<|zm R R<|zn<|?_
 exact Ap (k+1) (by omega) (by omega) (fz ⟨sr,sr,sr,sr,sr,sr,sr,sr,trivial⟩) (gz ⟨R,H6 R (Ht hx0 (Aih (.inl g22) c39)),trivial⟩)
 refine zi<|Af (by kernel_rfl)<|zp (Aw R (by conv=>lhs;whnf))<|?_
 refine zp (Ae (s':= .d (.agg [dI 0,dI 0,dI x.kind,dI x0.log,dI x0.dots, .sl 5 ((x.heads.map Hd.plain).map Hd.c), .v (.slice none 0 0),dI 0,dI 0,dI 0, .v (.slice none 0 0),dI x.stem,dI 0])) (Aa (Ad R R Bz R lb)) (by kernel_rfl))<|XL.step R (Bq 46 R Tryz.underlying79 C7 B3 R R (by omega) (by omega))<|?_
 refine XL.row1 (i:=46) R (.cons (.same R) (.cons (.same R) (.cons (.same R) (.cons (.same R) (.cons (.same R) (.cons (.same R) (.cons (.nil 5) (.cons (.same R) (.cons (.same R) (.cons (.same R) (.cons (.nil 2) (.cons (.same R) (.cons (.same R) (.nil))))))))))))))<|XL.step R (Bg R G4 (.own R) (Src.own R) (by unfold maxLen;simp;omega) (by simp;omega))<|?_
 refine zp (Ay R (by conv=>lhs;whnf))<|?_
 refine zn<|Af (by kernel_rfl)<|zp (Am R R R (by omega) (by omega))<|zm R R<|zn<|?_
 exact Ap (k+1) (by omega) (by omega) (fz ⟨sr,sr,sr,sr,sr,sr,sr,sr,trivial⟩) (gz ⟨R,H6 R (Ht hx0 (Aig (.inl g22) c39)),trivial⟩)
 refine zm R R<|zq R R R<|zn<|?_
 refine Fd (by kernel_rfl) R (fun c24=> ?_) (fun c24=> ?_)
 refine Dn 7 [] (by kernel_rfl) (by kernel_rfl) (by kernel_rfl) (by kernel_rfl) (by decide)<|yp (Ac R R Dk)<|yp (Ab R R Ai R R)<|yp (Ac R R Ij)<|yp (Ab R R Ai R R)<|yp (Ac R R D1)<|yp (Ab R R I9 R R)<|ChK.cons R (CStep.call R (O8 _ (by omega)) R)<|?_
 refine ChK.nil ⟨by kernel_rfl, ?_⟩
 refine zp (Ae (s':= .d (.agg [dI 0,dI 0,dI x.kind,dI 0,dI 0, .sl 5 ((x.heads.map Hd.plain).map Hd.c), .v (.slice none 0 0),dI 0,dI 0,dI 0, .v (.slice none 0 0),dI x.stem,dI 0])) (Aa (Ao R K3 B3 R)) (by kernel_rfl))<|?_
 refine XL.step R (Ag (l':= [.d (dI 0), .d (dI 0), .d (dI x.kind), .d (dI 0), .d (dI 0), .d (.sl 5 ((x.heads.map Hd.plain).map Hd.c)), .d (.v (.slice none 0 0)), .d (dI 0), .d (dI 0), .d (dI 0), .d (.v (.slice none 0 0)), .d (dI x.stem), .d (dI 0)]) R R R R C7 R lb (by kernel_rfl))<|znr<|zp (Ae (s':= .d (.agg (Val.c x0))) (Aa (Ad R R Ek R lb)) (by kernel_rfl))<|?_
 refine zp (Ac R R Hl)<|XL.step R (Ag (l':= [.d (dI 0), .d (dI 0), .d (dI x.kind), .d (dI x0.log), .d (dI x0.dots), .d (.sl 5 ((x.heads.map Hd.plain).map Hd.c)), .d (.v (.slice none 0 0)), .d (dI 0), .d (dI 0), .d (dI 0), .d (.v (.slice none 0 0)), .d (dI x.stem), .d (dI 0)]) R R R R Hc R lb (by kernel_rfl))<|zn<|zs<|zr<|zm R R<|zp (Am R R R (by omega) (by omega))<|zm R R<|?_
 refine XL.len R R R Tryz.underlying159 fun hl38=>zp (Ar R R R)<|zn<|?_
 refine zd R (fun c39=> ?_) (fun c39=> ?_)
 refine Af (by kernel_rfl)<|zp (Ac R R D1)<|zp (Ab R R I9 R R)<|XL.call1 R R (Pf _ (by omega)) R<|zp (Ac R R D1)<|?_
 refine XL.step R (Ag (l':= [.d (dI 0), .d (dI 0), .d (dI x.kind), .d (dI x0.log), .d (dI x0.dots), .d (.sl 5 (((x.heads.map Hd.plain).map Hd.tie).map Hd.c)), .d (.v (.slice none 0 0)), .d (dI 0), .d (dI 0), .d (dI 0), .d (.v (.slice none 0 0)), .d (dI x.stem), .d (dI 0)]) R R R R Qn R lb (by kernel_rfl))<|zng<|zp (Aw R (by conv=>lhs;whnf))<|?_
 refine zp (Ae (s':= .d (.agg [dI 0,dI 0,dI x.kind,dI x0.log,dI x0.dots, .sl 5 (((x.heads.map Hd.plain).map Hd.tie).map Hd.c), .v (.slice none 0 0),dI 0,dI 0,dI 0, .v (.slice none 0 0),dI x.stem,dI 0])) (Aa (Ad R R Bz R lb)) (by kernel_rfl))<|XL.step R (Bq 46 R Tryz.underlying79 C7 B3 R R (by omega) (by omega))<|?_
 refine XL.row1 (i:=46) R (.cons (.same R) (.cons (.same R) (.cons (.same R) (.cons (.same R) (.cons (.same R) (.cons (.same R) (.cons (.nil 5) (.cons (.same R) (.cons (.same R) (.cons (.same R) (.cons (.nil 2) (.cons (.same R) (.cons (.same R) (.nil))))))))))))))<|XL.step R (Bg R G4 (.own R) (Src.own R) (by unfold maxLen;simp;omega) (by simp;omega))<|?_
 refine zp (Ay R (by conv=>lhs;whnf))<|?_
 refine zn<|Af (by kernel_rfl)<|zp (Am R R R (by omega) (by omega))<|zm R R<|zn<|?_
 exact Ap (k+1) (by omega) (by omega) (fz ⟨sr,sr,sr,sr,sr,sr,sr,sr,trivial⟩) (gz ⟨R,H6 R (Ht hx0 (Aih (.inr c24) c39)),trivial⟩)
 refine zi<|Af (by kernel_rfl)<|zp (Aw R (by conv=>lhs;whnf))<|?_
 refine zp (Ae (s':= .d (.agg [dI 0,dI 0,dI x.kind,dI x0.log,dI x0.dots, .sl 5 ((x.heads.map Hd.plain).map Hd.c), .v (.slice none 0 0),dI 0,dI 0,dI 0, .v (.slice none 0 0),dI x.stem,dI 0])) (Aa (Ad R R Bz R lb)) (by kernel_rfl))<|XL.step R (Bq 46 R Tryz.underlying79 C7 B3 R R (by omega) (by omega))<|?_
 refine XL.row1 (i:=46) R (.cons (.same R) (.cons (.same R) (.cons (.same R) (.cons (.same R) (.cons (.same R) (.cons (.same R) (.cons (.nil 5) (.cons (.same R) (.cons (.same R) (.cons (.same R) (.cons (.nil 2) (.cons (.same R) (.cons (.same R) (.nil))))))))))))))<|XL.step R (Bg R G4 (.own R) (Src.own R) (by unfold maxLen;simp;omega) (by simp;omega))<|?_
 refine zp (Ay R (by conv=>lhs;whnf))<|?_
 refine zn<|Af (by kernel_rfl)<|zp (Am R R R (by omega) (by omega))<|zm R R<|zn<|?_
 exact Ap (k+1) (by omega) (by omega) (fz ⟨sr,sr,sr,sr,sr,sr,sr,sr,trivial⟩) (gz ⟨R,H6 R (Ht hx0 (Aig (.inr c24) c39)),trivial⟩)
 refine zi<|zr<|zp (Ae (s':= .d (.agg (Val.c x0))) (Aa (Ad R R Ek R lb)) (by kernel_rfl))<|zp (Ac R R Hl)<|?_
 refine XL.step R (Ag (l':= [.d (dI x.site), .d (dI x.num), .d (dI x.kind), .d (dI x0.log), .d (dI x0.dots), .d (.sl 5 (x.heads.map Hd.c)), .d (.sl 5 (x.graces.map Gr.c)), .d (dI x.art), .d (dI x.orn), .d (dI x.dyn), .d (.sl 2 (x.lyr.map Sy.c)), .d (dI x.stem), .d (dI x.beam)]) R R R R Hc R lb (by kernel_rfl))<|zn<|zs<|zr<|zm R R<|zp (Am R R R (by omega) (by omega))<|zm R R<|?_
 refine XL.len R R R Tryz.underlying159 fun hl38=>zp (Ar R R R)<|zn<|?_
 refine zd R (fun c39=> ?_) (fun c39=> ?_)
 refine Af (by kernel_rfl)<|zp (Ac R R D1)<|zp (Ab R R I9 R R)<|XL.call1 R R (Pf _ (by omega)) R<|zp (Ac R R D1)<|?_
 refine XL.step R (Ag (l':= [.d (dI x.site), .d (dI x.num), .d (dI x.kind), .d (dI x0.log), .d (dI x0.dots), .d (.sl 5 ((x.heads.map Hd.tie).map Hd.c)), .d (.sl 5 (x.graces.map Gr.c)), .d (dI x.art), .d (dI x.orn), .d (dI x.dyn), .d (.sl 2 (x.lyr.map Sy.c)), .d (dI x.stem), .d (dI x.beam)]) R R R R Qn R lb (by kernel_rfl))<|zng<|zp (Aw R (by conv=>lhs;whnf))<|?_
 refine zp (Ae (s':= .d (.agg [dI x.site,dI x.num,dI x.kind,dI x0.log,dI x0.dots, .sl 5 ((x.heads.map Hd.tie).map Hd.c), .sl 5 (x.graces.map Gr.c),dI x.art,dI x.orn,dI x.dyn, .sl 2 (x.lyr.map Sy.c),dI x.stem,dI x.beam])) (Aa (Ad R R Bz R lb)) (by kernel_rfl))<|XL.step R (Bq 46 R Tryz.underlying79 C7 B3 R R (by omega) (by omega))<|?_
 refine XL.step R (Bg R G4 (.own R) (Src.own R) (by unfold maxLen;simp;omega) (by simp;omega))<|zp (Ay R (by conv=>lhs;whnf))<|?_
 refine zn<|Af (by kernel_rfl)<|zp (Am R R R (by omega) (by omega))<|zm R R<|zn<|?_
 exact Ap (k+1) (by omega) (by omega) (fz ⟨sr,sr,sr,sr,sr,sr,sr,sr,trivial⟩) (gz ⟨R,H6 R (Ht hx0 (Ar1 g22 c24 c39)),trivial⟩)
 refine zi<|Af (by kernel_rfl)<|zp (Aw R (by conv=>lhs;whnf))<|?_
 refine zp (Ae (s':= .d (.agg [dI x.site,dI x.num,dI x.kind,dI x0.log,dI x0.dots, .sl 5 (x.heads.map Hd.c), .sl 5 (x.graces.map Gr.c),dI x.art,dI x.orn,dI x.dyn, .sl 2 (x.lyr.map Sy.c),dI x.stem,dI x.beam])) (Aa (Ad R R Bz R lb)) (by kernel_rfl))<|XL.step R (Bq 46 R Tryz.underlying79 C7 B3 R R (by omega) (by omega))<|?_
 refine XL.step R (Bg R G4 (.own R) (Src.own R) (by unfold maxLen;simp;omega) (by simp;omega))<|zp (Ay R (by conv=>lhs;whnf))<|?_
 refine zn<|Af (by kernel_rfl)<|zp (Am R R R (by omega) (by omega))<|zm R R<|zn<|?_
 exact Ap (k+1) (by omega) (by omega) (fz ⟨sr,sr,sr,sr,sr,sr,sr,sr,trivial⟩) (gz ⟨R,H6 R (Ht hx0 (Ar0 g22 c24 c39)),trivial⟩)
 have hk0b:k=vs.length:=by omega
 have ht:J4 x vs fu k=Bu x vs fu:=by rw [J4,hk0b,List.take_length];rfl
 refine A0<|zr<|zp (Aw R (by conv=>lhs;whnf))<|?_
 refine zp (Ay R (by conv=>lhs;whnf))<|?_
 refine zn<|zt<|?_
 exact ⟨Dg R (RVS.tmp R R),HSub.cons (by rw [ht];rfl) (HSub.nil)⟩
end Go.Proofs.YtaafemnkamfgnaaGreat
namespace Go.Proofs.YtaafemnkamfgnaaGreat
open Go.RowKit
def Ev.silent (e:Ev):Prop:=(e.kind=2∨e.kind=4)∧e.dyn=0∧e.art=0
instance (e:Ev):Decidable e.silent:=by unfold Ev.silent;exact inferInstance
def Ev.bare (y:Ev) (stem:Int):Ev:=⟨y.site,y.num,1,y.v,y.heads.map Hd.plain, [],0,0,0, [],stem,0⟩
def Xj (a b:List Hd):Prop:=∀(j:Nat) (x y:Hd),a[j]? =some x→b[j]? =some y→x.tied=true∧x.p=y.p
def Ev.conts (x y:Ev) (stem:Int):Prop:=x.kind=1∧x.heads.length=y.heads.length∧Xj x.heads y.heads∧y.eqv (y.bare stem)
open Classical in
noncomputable def Ev.contB (x y:Ev) (stem:Int):Bool:=decide (x.conts y stem)
def Pl.bad (p:Pl):Prop:=p.off<0∨15482880<p.off∨p.len<1∨15482880<p.len
instance (p:Pl):Decidable p.bad:=by unfold Pl.bad;exact inferInstance
def Pl.chk (p:Pl) (v:Vo):Int:=if p.m.err≠0 then p.m.err else if p.bad then 2 else ckE v p.len
theorem Auo {p:Pl} {v:Vo} (h:p.m.err≠0):p.m.err=p.chk v:=by rw [Pl.chk,if_pos h]
theorem Afw {p:Pl} {v:Vo} (h:¬p.m.err≠0) (h2:p.bad):2=p.chk v:=by rw [Pl.chk,if_neg h,if_pos h2]
theorem Aun {p:Pl} {v:Vo} (h:¬p.m.err≠0) (h2:¬p.bad):ckE v p.len=p.chk v:=by rw [Pl.chk,if_neg h,if_neg h2]
theorem Afv (p:Pl) (v:Vo) (hE:Evs v.evs):XC Tryz.prog 128 [.agg (Pl.c p), .agg (Vo.c v)] (fun r=>r=dI (p.chk v)):=by
 refine Aj Abk Tryz.func128 R R lb<|zr<|XL.step R (Aq 2 (l:= [.d (dI p.m.count), .d (dI p.m.unit), .d (dI p.m.g0), .d (dI p.m.g1), .d (dI p.m.g2), .d (dI p.m.g3), .d (dI p.m.g4), .d (dI p.m.g5), .d (dI p.off), .d (dI p.len)]) R R (by kernel_rfl))<|XL.step R (Aq 3 (l:= [.d (.sl 13 (v.evs.map Ev.c)), .d (.sl 4 (v.tups.map Tp.c))]) R R (by kernel_rfl))<|za R R<|zn<|zs<|zr<|?_
 refine zp (Ac R R Mt)<|zp (Ae (s':= .d (.agg (Me.c p.m))) (Aa (Ad R R A7 R lb)) (by kernel_rfl))<|XL.call1 R R (Nb _) R<|za R R<|znr<|zm R R<|zp (As R R R)<|zn<|?_
 refine zd R (fun c10=> ?_) (fun c10=> ?_)
 exact zr<|zm R R<|za R R<|zn<|zt<|z1 R R (rI (Auo c10))
 refine zi<|zs<|zr<|zp (Ac R R Gy)<|zp (Ab R R Ai R R)<|zp (Ar R R R)<|zm R R<|?_
 refine XL.dec 15 R (fun g15=> ?_) (fun g15=> ?_)
 exact zk 3 R<|zq R R R<|zm R R<|zk 3 R<|zq R R R<|zm R R<|zk 3 R<|zq R R R<|zn<|Au (by kernel_rfl) R<|zr<|za R R<|zn<|zt<|z1 R R (rI (Afw c10 (by unfold Pl.bad;omega)))
 refine zp (Ac R R Gy)<|zp (Ab R R Ai R R)<|zp (A5 R R R)<|zq R R R<|zm R R<|?_
 refine XL.dec 20 R (fun g20=> ?_) (fun g20=> ?_)
 exact zk 3 R<|zq R R R<|zm R R<|zk 3 R<|zq R R R<|zn<|Au (by kernel_rfl) R<|zr<|za R R<|zn<|zt<|z1 R R (rI (Afw c10 (by unfold Pl.bad;omega)))
 refine zp (Ac R R Cx)<|zp (Ab R R Ai R R)<|zp (Ar R R R)<|zq R R R<|zm R R<|?_
 refine XL.dec 25 R (fun g25=> ?_) (fun g25=> ?_)
 exact zk 3 R<|zq R R R<|zn<|Au (by kernel_rfl) R<|zr<|za R R<|zn<|zt<|z1 R R (rI (Afw c10 (by unfold Pl.bad;omega)))
 refine zp (Ac R R Cx)<|zp (Ab R R Ai R R)<|zp (A5 R R R)<|zq R R R<|zn<|?_
 refine zd R (fun c29=> ?_) (fun c29=> ?_)
 exact zr<|za R R<|zn<|zt<|z1 R R (rI (Afw c10 (by unfold Pl.bad;omega)))
 exact zi<|zr<|zp (Ae (s':= .d (.agg (Vo.c v))) (Aa (Ad R R Ax R lb)) (by kernel_rfl))<|zp (Ac R R Cx)<|zp (Ab R R Ai R R)<|XL.call1 R R (Kp _ _ (by assumption)) R<|za R R<|zn<|zt<|z1 R R (rI (Aun c10 (by unfold Pl.bad;omega)))
end Go.Proofs.YtaafemnkamfgnaaGreat
namespace Go.Proofs.YtaafemnkamfgnaaGreat
open Go.RowKit
theorem Ap6 (t:Tp) (a b:Int):XC Tryz.prog 103 [.agg (Tp.c t), .pt [dI a], .pt [dI b]] (fun r=>r=dB (decide (a≤t.first∧t.first<b))):=by
 refine Aj Abt Tryz.func103 R R lb<|zr<|XL.step R (Aq 3 (l:= [.d (dI t.first), .d (dI t.count), .d (dI t.actual), .d (dI t.normal)]) R R (by kernel_rfl))<|za R R<|znr<|zp (Ac R R Br)<|zp (Ab R R Ai R R)<|zp (Bb R R Ai)<|zp (Fz R R R)<|zm R R<|?_
 refine XL.dec 9 R (fun g9=> ?_) (fun g9=> ?_)
 exact zp (Ac R R Br)<|zp (Ab R R Ai R R)<|zp (Bb R R Ai)<|zp (Ar R R R)<|zq R R R<|za R R<|zn<|zt<|z1 R R (rB (by rw [decide_eq_decide];omega))
 exact zk 4 R<|zq R R R<|za R R<|zn<|zt<|z1 R R (rB (by rw [eq_comm,decide_eq_false_iff_not];omega))
theorem Ao3 (t:Tp) (a:Int):XC Tryz.prog 175 [.agg (Tp.c t), .pt [dI a]] (fun r=>r=dB (decide (t.first<a))):=by
 exact Aj Aah Tryz.func175 R R lb<|zr<|XL.step R (Aq 2 (l:= [.d (dI t.first), .d (dI t.count), .d (dI t.actual), .d (dI t.normal)]) R R (by kernel_rfl))<|za R R<|znr<|zp (Ac R R Br)<|zp (Ab R R Ai R R)<|zp (Bb R R Ai)<|zp (Ar R R R)<|za R R<|zn<|zt<|z1 R R (R)
theorem Ao2 (t:Tp) (a b:Int) (h0:0≤a∧a≤100000) (h1:0≤b∧b≤100000):XC Tryz.prog 176 [.agg (Tp.c t), .pt [dI a], .pt [dI b]] (fun r=>r=dB (decide (a+b≤t.first))):=by
 exact Aj Aag Tryz.func176 R R lb<|zr<|XL.step R (Aq 3 (l:= [.d (dI t.first), .d (dI t.count), .d (dI t.actual), .d (dI t.normal)]) R R (by kernel_rfl))<|za R R<|znr<|zp (Ac R R Br)<|zp (Ab R R Ai R R)<|zp (Bb R R Ai)<|zp (Bb R R Ai)<|zp (Am R R R (by omega) (by omega))<|zp (Fz R R R)<|za R R<|zn<|zt<|z1 R R (R)
theorem Ao1 (t:Tp):XC Tryz.prog 177 [.agg (Tp.c t)] (fun r=>r=dB true):=by
 exact Aj Aaf Tryz.func177 R R lb<|zr<|XL.step R (Aq 1 (l:= [.d (dI t.first), .d (dI t.count), .d (dI t.actual), .d (dI t.normal)]) R R (by kernel_rfl))<|za R R<|znr<|za R R<|zn<|zt<|z1 R R (R)
end Go.Proofs.YtaafemnkamfgnaaGreat
