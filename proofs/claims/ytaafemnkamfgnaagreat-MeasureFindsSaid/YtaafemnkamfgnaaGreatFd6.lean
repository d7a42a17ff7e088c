/- Part 6 of what the statements need: lemmas and walks. -/
import Derived.Test.YtaafemnkamfgnaaGreatFd5
set_option linter.unusedVariables false
set_option linter.unusedSimpArgs false
set_option linter.unusedSectionVars false
set_option maxRecDepth 20000
set_option maxHeartbeats 8000000
namespace Go.Proofs.YtaafemnkamfgnaaGreat
open Go.RowKit
theorem Wk (t:Tp) (l:List Tp) (n:Int):hits (t::l) n=hits l n+(if t.has n then 1 else 0):=by
 unfold hits
 rw [List.filter_cons]
 by_cases h:t.has n<;>simp [h]
theorem Al0 (l:List Tp) (n:Int):hits l n≤l.length:=List.length_filter_le _ _
theorem Alz (t:Tp) (s:List Tp) (n:Int) (hn:t.first≤n):hits (Cd t s) n=hits s n:=by
 induction s with
 |nil=>rfl
 |cons o r ih=>
  unfold Cd
  split
  ·rename_i h
   rw [ih,Wk,if_neg (fun k=>by unfold Tp.has at k;unfold Tp.e at h;omega)]
   rfl
  ·rfl
theorem Af4 {q t:Tp} (h:¬0<Jq q t):q.first≤t.first:=by
 unfold Jq at h
 split at h
 ·split at h<;>omega
 ·omega
theorem Afh (n:Int) (l:List Tp):∀(p:Option Tp) (s L:List Tp),Eg n p s l=0→s.length≤3→(∀e,hits L e≤3)→(∀e,(∀q,p=some q→q.first≤e)→hits L e=hits s e)→∀e,hits (L++l) e≤3:=by
 induction l with
 |nil=>intro p s L _ _ h1 _ e;rw [List.append_nil];exact h1 e
 |cons t l ih=>
  intro p s L hz hs h1 h2 e
  rw [Eg] at hz
  split at hz
  ·omega
  ·split at hz
   ·omega
   ·rename_i hin hna
    split at hz
    ·omega
    ·rename_i hov
     have hp:∀q,p=some q→q.first≤t.first:=fun q hq=>by subst hq;exact Af4 hna
     have h3:(t::Cd t s).length≤3:=by
      have h4:=Ak4 t s
      have h5:¬(Cd t s).length=3:=fun k=>hov (.inl k)
      rw [List.length_cons]
      omega
     have heq:∀e,t.first≤e→hits (L++ [t]) e=hits (t::Cd t s) e:=fun e he=>by
      rw [H6,Wk,Alz t s e he,h2 e (fun q hq=>Int.le_trans (hp q hq) he)]
     have:=ih (some t) (t::Cd t s) (L++ [t]) hz h3 (fun e=> ?_) (fun e he=>heq e (he t rfl)) e
     ·rw [List.append_assoc] at this;exact this
     ·by_cases he:t.first≤e
      ·rw [heq e he];exact Nat.le_trans (Al0 _ _) h3
      ·rw [H6,if_neg (fun k=>he k.1)];exact h1 e
theorem Akj (n:Int) (l:List Tp):∀(p:Option Tp) (s:List Tp),Eg n p s l=0→∀t∈l,t.inR n:=by
 induction l with
 |nil=>intro p s _ t ht;cases ht
 |cons t l ih=>
  intro p s hz x hx
  rw [Eg] at hz
  split at hz
  ·omega
  ·rename_i hin
   split at hz
   ·omega
   ·split at hz
    ·omega
    ·rcases List.mem_cons.1 hx with e|e
     ·rw [e];exact Decidable.not_not.1 hin
     ·exact ih _ _ hz x e
structure Tups (l:List Tp) (n:Int):Prop where
 bd:0≤n∧n≤128
 len:l.length≤16
 inR:∀t∈l,t.inR n
 ok:∀t∈l,t.ok
 hits:∀e,hits l e≤3
theorem Uy {l:List Tp} {n:Int} (h:¬Dx l n≠0):Tups l n:=by
 have h0:Dx l n=0:=by omega
 unfold Dx at h0
 split at h0
 ·omega
 ·split at h0
  ·omega
  ·have hi:=Akj n l _ _ h0
   refine ⟨by omega,by omega,hi,fun t ht=>(hi t ht).ok (by omega),fun e=> ?_⟩
   have:=Afh n l none [] [] h0 (by decide) (fun e=>Nat.zero_le _) (fun e _=>rfl) e
   rwa [List.nil_append] at this
def Cs (l:List Tp):Nat→List Int→List Int
 |_, []=> []
 |i,w::r=>Dz l i w::Cs l (i+1) r
def Is (l:List Tp):Nat→List Int→Int
 |_, []=>0
 |i,w::r=>if Dq l i w≠0 then Dq l i w else Is l (i+1) r
def C0 (l:List Tp) (ws:List Int):Int:=if Dx l ws.length≠0 then Dx l ws.length else Is l 0 ws
def G1 (l:List Tp) (ws:List Int):List Int:=if C0 l ws=0 then Cs l 0 ws else []
theorem Agc (l:List Tp) (a:List Int) (w:Int):∀i,Cs l i (a++ [w])=Cs l i a++ [Dz l ((i+a.length:Nat):Int) w]:=by
 induction a with
 |nil=>intro i;rfl
 |cons x a ih=>
  intro i
  rw [List.cons_append,Cs,ih (i+1),Cs,List.cons_append,List.length_cons,show i+1+a.length=i+(a.length+1) by omega]
theorem Acf {l:List Tp} {ws:List Int} {k:Nat} {w:Int} (h:ws[k]? =some w):Cs l 0 (ws.take (k+1))=Cs l 0 (ws.take k)++ [Dz l (k:Int) w]:=by
 have hk:=(List.getElem?_eq_some_iff.1 h).1
 rw [Bn h,Agc,List.length_take,Nat.zero_add,Nat.min_eq_left (by omega)]
theorem Ij (l:List Tp) (ws:List Int):∀i,(Cs l i ws).length=ws.length:=by
 induction ws with
 |nil=>intro i;rfl
 |cons w r ih=>intro i;rw [Cs,List.length_cons,ih,List.length_cons]
theorem Ahx {l:List Tp} {ws:List Int} {k:Nat} {w:Int} (h:ws[k]? =some w) (hx:¬Dq l k w≠0):Is l k (ws.drop k)=Is l (k+1) (ws.drop (k+1)):=by rw [Bq h,Is,if_neg hx]
theorem X8 {l:List Tp} {ws:List Int} {k:Nat} {w:Int} (h:ws[k]? =some w) (hx:Dq l k w≠0):Is l k (ws.drop k)=Dq l k w:=by rw [Bq h,Is,if_pos hx]
theorem Ahm {l:List Tp} {ws:List Int} (h:Dx l ws.length≠0): []=G1 l ws∧Dx l ws.length=C0 l ws:=by
 have e:C0 l ws=Dx l ws.length:=by rw [C0,if_pos h]
 exact ⟨by rw [G1,e,if_neg h],e.symm⟩
theorem Ahl {l:List Tp} {ws:List Int} (h:¬Dx l ws.length≠0) {e:Int} (he:e=Is l 0 ws) (hn:e≠0): []=G1 l ws∧e=C0 l ws:=by
 have e2:C0 l ws=e:=by rw [C0,if_neg h,he]
 exact ⟨by rw [G1,e2,if_neg hn],e2.symm⟩
theorem Ahk {l:List Tp} {ws:List Int} (h:¬Dx l ws.length≠0) (he:Is l 0 ws=0):Cs l 0 ws=G1 l ws∧0=C0 l ws:=by
 have e2:C0 l ws=0:=by rw [C0,if_neg h,he]
 exact ⟨by rw [G1,e2,if_pos rfl],e2.symm⟩
theorem Rl (l:List Tp) (ws:List Int):XC Tryz.prog 169 [.sl 4 (l.map Tp.c), .sl 1 (B6 ws)] (fun r=>r= .tup [.sl 1 (B6 (G1 l ws)),dI (C0 l ws)]):=by
 refine Am Aav Tryz.func169 R R lb<|zr<|za R R<|za R R<|zn<|zs<|zr<|zm R R<|zm R R<|XL.len R R R Tryz.underlying45 fun hl14=>XL.call1 R R (Vq _ _) R<|za R R<|znr<|zm R R<|?_
 refine zp (A5 R R R)<|zn<|?_
 refine zd R (fun c17=> ?_) (fun c17=> ?_)
 refine zr<|zm R R<|za R R<|za R R<|zn<|zt<|?_
 exact Ay R (RV.nil (sz:=1) R R) (RV.tmp R R) (r2 (rSl (Ahm c17).1) (rI (Ahm c17).2))
 refine zi<|zs<|?_
 have hT:=Uy c17
 have hbd:=hT.bd
 refine Ag (by kernel_rfl)<|zm R R<|XL.len R R R Tryz.underlying45 fun hl20=>XL.step R (N4 21 (m:=0) (z:=(.int .i64 0)) (zs:= [dI 0]) (sz:=1) (bytes:=8) R R R Tryz.underlying45 (by kernel_rfl) (by kernel_rfl) (by kernel_rfl) (by decide) (by decide) (by omega) (by unfold maxLen;omega) (by omega))<|zp (As R (by conv=>lhs;whnf))<|?_
 refine zn<|zs<|zr<|zm R R<|XL.len R R R Tryz.underlying45 fun hl23=>zm R R<|zn<|Ah<|?_
 refine Az (α:=Nat) (fun k=>k≤ws.length∧Is l k (ws.drop k)=Is l 0 ws) (fun k=>mkF [(0, .d (.sl 4 (l.map Tp.c))),(7, .own 21),(22, .d (.sl 1 (B6 ws))),(23, .d (dI ws.length)),(24, .d (dI k))]) (fun k=>mkH [(21, .row 3 1 ((Cs l 0 (ws.take k)).map iv))]) (fun k=>ws.length - k) (0) (⟨Nat.zero_le _,by rw [List.drop_zero]⟩) ?_ ?_ ?_
 exact fz ⟨sr,sr,sr,sr,sr,trivial⟩
 exact gz ⟨R,trivial⟩
 intro k hk0
 obtain ⟨hk,hgo⟩:=hk0
 refine zr<|zp (Av R R R)<|zn<|zs<|?_
 refine zd R (fun c25=> ?_) (fun c25=> ?_)
 have hk0a:k<ws.length:=by omega
 obtain ⟨x0,hx0⟩:=Ax hk0a
 have hok:=hT.ok
 have hh:=hT.hits k
 have hll:(Cs l 0 (ws.take k)).length=k:=by rw [Ij,List.length_take];omega
 refine zi<|zs<|Ah<|zr<|zm R R<|zp (Ar R R R C7 hx0)<|zp (A4 R R Ai)<|za R R<|za R R<|znr<|zm R R<|zm R R<|zm R R<|XL.call1 R R (X6 _ _ _ (by assumption) (by assumption) (by omega) (by omega)) R<|?_
 refine zm R R<|zp (Ap R R R)<|zp (Ap R R R)<|za R R<|za R R<|zn<|zs<|zr<|zm R R<|zp (A5 R R R)<|zn<|?_
 refine zd R (fun c37=> ?_) (fun c37=> ?_)
 refine zr<|zm R R<|za R R<|za R R<|zn<|zt<|?_
 exact Ay R (RV.nil (sz:=1) R R) (RV.tmp R R) (r2 (rSl (Ahl c17 (by rw [←hgo,X8 hx0 c37]) c37).1) (rI (Ahl c17 (by rw [←hgo,X8 hx0 c37]) c37).2))
 refine zi<|Ag (by kernel_rfl)<|zp (Aq R (by conv=>lhs;whnf))<|?_
 refine zm R R<|XL.step R (Bj 41 R Tryz.underlying45 Ep Hc R R (by omega) (by omega))<|XL.step R (A3 R Qh (.own R) (Src.own R) (by unfold maxLen;simp;omega) (by simp;omega))<|zp (As R (by conv=>lhs;whnf))<|?_
 refine zn<|Ag (by kernel_rfl)<|zp (Ak R R R (by omega) (by omega))<|zm R R<|zn<|?_
 exact Al (k+1) (⟨by omega,by rw [←Ahx hx0 c37];exact hgo⟩) (by omega) (fz ⟨sr,sr,sr,sr,sr,trivial⟩) (gz ⟨It rfl (Acf hx0),trivial⟩)
 have hk0b:k=ws.length:=by omega
 have hz:Is l 0 ws=0:=by rw [←hgo,hk0b,List.drop_length];rfl
 have ht:ws.take k=ws:=by rw [hk0b,List.take_length]
 refine At<|zr<|zp (Aq R (by conv=>lhs;whnf))<|?_
 refine zp (As R (by conv=>lhs;whnf))<|?_
 refine za R R<|zn<|zt<|B5 (i:=21) R<|?_
 exact Ay R (RV.tmp R R) (RV.tmp R R) (r2 (rSl (by rw [ht];exact (Ahk c17 hz).1)) (rI (Ahk c17 hz).2))
abbrev M5 (l:List Tp) (i:Nat):List Tp:=(l.take l.length).drop (i+1)
def Fu (l:List Tp):Nat→List Int→Int→Option Int
 |_, [],acc=>some acc
 |i,w::r,acc=>if Dq l i w≠0 then none else Fu l (i+1) r (acc+Dz l i w)
def G3 (t:Tp) (ws:List Int):List Int:=(ws.drop t.first.toNat).take t.count.toNat
def S4 (a s:Int):Option Int:=((List.range 10).find? fun j=>decide (s=a*(3870720 / 2 ^ j))).map fun j=>(j:Int) - 1
def Ft (l:List Tp) (t:Tp) (ws:List Int):Option Int:=(Fu l t.first.toNat (G3 t ws) 0).bind (S4 t.actual)
def To (l:List Tp) (i:Nat) (ws:List Int):Option Int:=(l[i]?).bind fun t=>Ft (M5 l i) t ws
theorem L6 {l:List Tp} {i:Nat} {t:Tp} (h:l[i]? =some t) (ws:List Int):To l i ws=Ft (M5 l i) t ws:=by rw [To,h];rfl
theorem An2 {t:Tp} {ws:List Int} {j:Nat} (hj:j<t.count.toNat):(G3 t ws)[j]? =ws[t.first.toNat+j]? :=by
 rw [G3,List.getElem?_take,if_pos hj,List.getElem?_drop]
theorem Aff {l:List Tp} {i k:Nat} {seg:List Int} {w acc:Int} (h:seg[k]? =some w) (hx:¬Dq l i w≠0):Fu l i (seg.drop k) acc=Fu l (i+1) (seg.drop (k+1)) (acc+Dz l i w):=by rw [Bq h,Fu,if_neg hx]
theorem Afe {l:List Tp} {i k:Nat} {seg:List Int} {w acc:Int} (h:seg[k]? =some w) (hx:Dq l i w≠0):Fu l i (seg.drop k) acc=none:=by rw [Bq h,Fu,if_pos hx]
theorem Ahf {l:List Tp} {i k:Nat} {seg:List Int} {acc:Int} (h:seg.length≤k):Fu l i (seg.drop k) acc=some acc:=by rw [List.drop_eq_nil_of_le h,Fu]
theorem Ao7 {p:Nat→Bool} {m k:Nat} (hk:k<m) (hp:p k=true) (h:∀j,j<k→p j=false):(List.range m).find? p=some k:=by
 rw [List.find?_range_eq_some]
 exact ⟨hp,List.mem_range.2 hk,fun j hj=>by simp [h j hj]⟩
theorem Aoo {a s:Int} {k:Nat} (hk:k<10) (hp:s=a*(3870720 / 2 ^ k)) (h:∀j,j<k→¬s=a*(3870720 / 2 ^ j)):S4 a s=some ((k:Int) - 1):=by
 rw [S4,Ao7 hk (decide_eq_true hp) (fun j hj=>decide_eq_false (h j hj))];rfl
theorem Aiu {a s:Int} (h:∀j,j<10→¬s=a*(3870720 / 2 ^ j)):S4 a s=none:=by
 rw [S4,List.find?_eq_none.2 (fun j hj=>by simp [h j (List.mem_range.1 hj)])];rfl
theorem Tq {l:List Tp} {t:Tp} {ws:List Int} {s:Int} (h:Fu l t.first.toNat (G3 t ws) 0=some s):Ft l t ws=S4 t.actual s:=by rw [Ft,h];rfl
theorem Afd {l:List Tp} {t:Tp} {ws:List Int} (h:Fu l t.first.toNat (G3 t ws) 0=none):Ft l t ws=none:=by rw [Ft,h];rfl
theorem Yj {o:Option Int} (h:o=none):D.tup [dI 0,dB false]= .tup [dI (o.getD 0),dB o.isSome]:=by rw [h];rfl
theorem Ale {o:Option Int} {x:Int} (h:o=some x):D.tup [dI x,dB true]= .tup [dI (o.getD 0),dB o.isSome]:=by rw [h];rfl
theorem Ap2 (k:Nat):0≤(3870720:Int) / 2 ^ k∧(3870720:Int) / 2 ^ k≤3870720:=by
 have h:(0:Int)<2 ^ k:=Int.pow_pos (by omega)
 exact ⟨Int.ediv_nonneg (by omega) (by omega),Int.ediv_le_self _ (by omega)⟩
theorem Ann (l:List Tp) (i:Nat) (t:Tp) (ws:List Int) (ht:l[i]? =some t) (hT:Tups l ws.length):XC Tryz.prog 192 [.sl 4 (l.map Tp.c), .v (.int .i64 i), .sl 1 (B6 ws)] (fun r=>r= .tup [dI ((Ft (M5 l i) t ws).getD 0),dB (Ft (M5 l i) t ws).isSome]):=by
 have hin:=hT.inR t (List.mem_of_getElem? ht)
 have hok:=hT.ok t (List.mem_of_getElem? ht)
 have hbd:=hT.bd
 have hlen:=hT.len
 have hil:=(List.getElem?_eq_some_iff.1 ht).1
 have hin2:=hin
 simp only [Tp.inR] at hin2
 have hte:t.e=t.first+t.count:=rfl
 obtain ⟨f,hf⟩:∃f:Nat,t.first=f:=⟨t.first.toNat,by omega⟩
 have hf2:t.first.toNat=f:=by omega
 have hsl:(G3 t ws).length=t.count.toNat:=by rw [G3,List.length_take,List.length_drop];omega
 have hoks:∀x∈(l.take l.length).drop (i+1),x.ok:=Aoe (Aef hT.ok _) _
 have hhs:∀e,hits ((l.take l.length).drop (i+1)) e≤3:=fun e=>Nat.le_trans (Ajb _ _ e) (Nat.le_trans (P9 _ _ e) (hT.hits e))
 refine Am Aaa Tryz.func192 R R lb<|zr<|za R R<|za R R<|znr<|zm R R<|zm R R<|zp (Ar R R R E6 (ht))<|zp (Ae (s':= .d (.agg (Tp.c t))) (A8 R R B7 lb) (by kernel_rfl))<|XL.step R (Ao 8 (l:= [.d (dI 0), .d (dI 0), .d (dI 0), .d (dI 0)]) R Dn (by kernel_rfl))<|?_
 refine XL.step R (Af (l':= [.d (dI t.first), .d (dI t.count), .d (dI t.actual), .d (dI t.normal)]) R R R R Eu R lb (by kernel_rfl))<|znr<|za R R<|zn<|zs<|zr<|zp (Aa R R Bp)<|zp (Ab R R Ai R R)<|za R R<|zn<|Ah<|?_
 refine Az (α:=Nat × Int) (fun p=>p.1≤t.count.toNat∧Fu ((l.take l.length).drop (i+1)) (f+p.1) ((G3 t ws).drop p.1) p.2=Fu ((l.take l.length).drop (i+1)) f (G3 t ws) 0∧0≤p.2∧p.2≤(p.1:Int)*253671505920) (fun p=>mkF [(0, .d (.sl 4 (l.map Tp.c))),(1, .d (dI i)),(2, .d (.sl 1 (B6 ws))),(8, .ptr 8 0 0),(9, .d (dI p.2)),(10, .d (dI ((f+p.1:Nat):Int)))]) (fun p=>mkH [(8, .box ((Tp.c t).map S.d))]) (fun p=>t.count.toNat - p.1) ((0,0)) (⟨Nat.zero_le _,by rw [List.drop_zero];rfl,Int.le_refl _,by simp⟩) ?_ ?_ ?_
 exact fz ⟨sr,sr,sr,sr,sr, .same (sI (by rw [hf];rfl)),trivial⟩
 exact gz ⟨R,trivial⟩
 intro p hk0
 obtain ⟨hk,hgo,hs0,hs1⟩:=hk0
 refine zs<|zr<|zm R R<|zp (Ae (s':= .d (.agg (Tp.c t))) (Ac (Ad R R B7 R lb)) (by kernel_rfl))<|XL.call1 R R (Gq _ (by assumption)) R<|zp (Av R R R)<|zn<|?_
 refine zd R (fun c23=> ?_) (fun c23=> ?_)
 have hkc:p.1<t.count.toNat:=by omega
 obtain ⟨w,hw⟩:∃w,ws[f+p.1]? =some w:=Ax (by omega)
 have hsw:(G3 t ws)[p.1]? =some w:=by rw [An2 hkc,hf2];exact hw
 have hh:=hhs ((f+p.1:Nat):Int)
 have hsb:=X7 (n:=((f+p.1:Nat):Int)) (w:=w) hoks hh
 refine zi<|zs<|Ah<|zs<|B3 [] (by kernel_rfl) (by kernel_rfl) (by kernel_rfl) (by decide)<|ym R R<|ym R R<|yp (Ak R R R (by omega) (by omega))<|yp (Ix R R E6 (Bd.ati (a:=i+1) R (by omega)) Bd.no (by omega) (by omega))<|ym R R<|ym R R<|ym R R<|yp (Ar R R R C7 (hw))<|yp (A4 R R Ai)<|?_
 refine ChK.cons R (CStep.call R (X6 _ _ _ (by assumption) (by assumption) (by omega) (by omega)) R)<|ym R R<|yp (Ap R R R)<|yp (Ap R R R)<|ya R R<|ya R R<|?_
 refine ChK.nil ⟨by kernel_rfl, ?_⟩
 refine zs<|zr<|zm R R<|zp (A5 R R R)<|zn<|?_
 refine zd R (fun c40=> ?_) (fun c40=> ?_)
 refine zr<|za R R<|za R R<|zn<|zt<|?_
 exact Ay R (RV.tmp R R) (RV.tmp R R) (Yj (Afd (by rw [hf2, ←hgo];exact Afe hsw c40)))
 refine zi<|Ag (by kernel_rfl)<|zm R R<|zm R R<|zp (Ak R R R (by omega) (by omega))<|za R R<|zn<|Ag (by kernel_rfl)<|zm R R<|zp (Ak R R R (by omega) (by omega))<|za R R<|zn<|?_
 exact Al ((p.1+1,p.2+Dz ((l.take l.length).drop (i+1)) ((f+p.1:Nat):Int) w)) (⟨by simp only;omega,(Aff hsw c40).symm.trans hgo,by simp only;omega,by simp only;omega⟩) (by simp only;omega) (fz ⟨sr,sr,sr,sr,sr,sr,trivial⟩) (gz ⟨rfl,trivial⟩)
 have hu:Fu ((l.take l.length).drop (i+1)) t.first.toNat (G3 t ws) 0=some p.2:=by rw [hf2, ←hgo];exact Ahf (by omega)
 refine At<|zs<|zr<|za R R<|zn<|Ah<|?_
 refine Az (α:=Nat) (fun k=>k≤10∧∀j,j<k→¬p.2=t.actual*(3870720 / 2 ^ j)) (fun k=>mkF [(8, .ptr 8 0 0),(9, .d (dI p.2)),(13, .d (dI ((k:Int) - 1)))]) (fun k=>mkH [(8, .box ((Tp.c t).map S.d))]) (fun k=>10 - k) (0) (⟨Nat.zero_le _,fun j hj=>absurd hj (Nat.not_lt_zero _)⟩) ?_ ?_ ?_
 exact fz ⟨sr,sr,sr,trivial⟩
 exact gz ⟨R,trivial⟩
 intro k hk2
 obtain ⟨hk,hno⟩:=hk2
 have hkk:((k:Int) - 1+1).toNat=k:=by omega
 have hsh:=Ap2 k
 refine zs<|zr<|zm R R<|zp (Nd R R R)<|zn<|?_
 refine zd R (fun c45=> ?_) (fun c45=> ?_)
 have hml1:0≤t.actual*(3870720 / 2 ^ k):=Int.mul_nonneg (by omega) hsh.1
 have hml2:t.actual*(3870720 / 2 ^ k)≤32*3870720:=Int.mul_le_mul (by omega) hsh.2 hsh.1 (by omega)
 refine zi<|zs<|Ah<|zs<|B3 [] (by kernel_rfl) (by kernel_rfl) (by kernel_rfl) (by decide)<|ym R R<|yp (Aa R R Nm)<|yp (Ab R R Ai R R)<|ym R R<|yp (Ak R R R (by omega) (by omega))<|yp (Amy R R R (by omega) (by omega))<|yp (Lk R R R (by rw [hkk];omega) (by rw [hkk];omega))<|yp (Bb R R R)<|?_
 refine ChK.nil ⟨by kernel_rfl, ?_⟩
 refine zd R (fun c55=> ?_) (fun c55=> ?_)
 refine zr<|zm R R<|za R R<|za R R<|zn<|zt<|?_
 exact Ay R (RV.tmp R R) (RV.tmp R R) (Ale (by rw [Tq hu];exact Aoo (by omega) (by rw [hkk] at c55;exact c55) hno))
 refine zi<|Ag (by kernel_rfl)<|zm R R<|zp (Ak R R R (by omega) (by omega))<|za R R<|zn<|?_
 exact Al (k+1) (⟨by omega,fun j hj=>by by_cases e:j=k;(· subst e;rw [hkk] at c55;exact c55);(· exact hno j (by omega))⟩) (by omega) (fz ⟨sr,sr, .same (sI (by omega)),trivial⟩) (gz ⟨rfl,trivial⟩)
 have hke:k=10:=by omega
 have hnone:S4 t.actual p.2=none:=Aiu (fun j hj=>hno j (by omega))
 refine At<|zr<|za R R<|za R R<|zn<|zt<|?_
 exact Ay R (RV.tmp R R) (RV.tmp R R) (Yj (by rw [Tq hu];exact hnone))
theorem M4 {l:List Tp} {ws:List Int} (h:¬C0 l ws≠0):Tups l ws.length:=by
 unfold C0 at h
 split at h
 ·rename_i h2;exact absurd h2 h
 ·rename_i h2;exact Uy h2
def Lt (l:List Tp) (ws:List Int):Prop:=∀j,j<l.length→(To l j ws).isSome=true
instance (l:List Tp) (ws:List Int):Decidable (Lt l ws):=by unfold Lt;exact inferInstance
def Et (l:List Tp) (ws:List Int):Int:=if C0 l ws≠0 then C0 l ws else if Lt l ws then 0 else 21
def M3 (l:List Tp) (ws:List Int) (k:Nat):List Int:=(List.range k).map fun j=>(To l j ws).getD 0
def L7 (l:List Tp) (ws:List Int):List Int:=if Et l ws=0 then M3 l ws l.length else []
theorem Afg {l:List Tp} {ws:List Int} {k:Nat} {t:Tp} (h:l[k]? =some t):M3 l ws (k+1)=M3 l ws k++ [(Ft (M5 l k) t ws).getD 0]:=by
 rw [M3,List.range_succ,List.map_append,List.map_singleton,L6 h];rfl
theorem Ahg (l:List Tp) (ws:List Int) (k:Nat):(M3 l ws k).length=k:=by rw [M3,List.length_map,List.length_range]
theorem Apv {l:List Tp} {ws:List Int} (h:C0 l ws≠0): []=L7 l ws∧C0 l ws=Et l ws:=by
 have e:Et l ws=C0 l ws:=by rw [Et,if_pos h]
 exact ⟨by rw [L7,e,if_neg h],e.symm⟩
theorem Apu {l:List Tp} {ws:List Int} (h:¬C0 l ws≠0) {k:Nat} {t:Tp} (ht:l[k]? =some t) (hn:(!(Ft (M5 l k) t ws).isSome)=true): []=L7 l ws∧21=Et l ws:=by
 have e:Et l ws=21:=by
  rw [Et,if_neg h,if_neg fun ha=> ?_]
  have:=ha k (List.getElem?_eq_some_iff.1 ht).1
  rw [L6 ht] at this
  rw [this] at hn
  cases hn
 exact ⟨by rw [L7,e,if_neg (by decide)],e.symm⟩
theorem Apt {l:List Tp} {ws:List Int} (h:¬C0 l ws≠0) (ha:Lt l ws):M3 l ws l.length=L7 l ws∧0=Et l ws:=by
 have e:Et l ws=0:=by rw [Et,if_neg h,if_pos ha]
 exact ⟨by rw [L7,e,if_pos rfl],e.symm⟩
theorem Aki (l:List Tp) (ws:List Int):XC Tryz.prog 170 [.sl 4 (l.map Tp.c), .sl 1 (B6 ws)] (fun r=>r= .tup [.sl 1 (B6 (L7 l ws)),dI (Et l ws)]):=by
 refine Am Aau Tryz.func170 R R lb<|zr<|za R R<|za R R<|zn<|zs<|zr<|zm R R<|zm R R<|XL.call1 R R (Rl _ _) R<|zm R R<|zp (Ap R R R)<|zp (Ap R R R)<|za R R<|?_
 refine za R R<|znr<|zm R R<|zp (A5 R R R)<|zn<|?_
 refine zd R (fun c19=> ?_) (fun c19=> ?_)
 refine zr<|zm R R<|za R R<|za R R<|zn<|zt<|?_
 exact Ay R (RV.nil (sz:=1) R R) (RV.tmp R R) (r2 (rSl (Apv c19).1) (rI (Apv c19).2))
 refine zi<|zs<|?_
 have hT:=M4 c19
 have hbd:=hT.bd
 have hlen:=hT.len
 refine Ag (by kernel_rfl)<|zm R R<|XL.len R R R Tryz.underlying80 fun hl22=>XL.step R (N4 23 (m:=0) (z:=(.int .i64 0)) (zs:= [dI 0]) (sz:=1) (bytes:=8) R R R Tryz.underlying45 (by kernel_rfl) (by kernel_rfl) (by kernel_rfl) (by decide) (by decide) (by omega) (by unfold maxLen;omega) (by omega))<|zp (As R (by conv=>lhs;whnf))<|?_
 refine zn<|zs<|zr<|zm R R<|XL.len R R R Tryz.underlying80 fun hl25=>zm R R<|zn<|Ah<|?_
 refine Az (α:=Nat) (fun k=>k≤l.length∧∀j,j<k→(To l j ws).isSome=true) (fun k=>mkF [(0, .d (.sl 4 (l.map Tp.c))),(1, .d (.sl 1 (B6 ws))),(8, .own 23),(25, .d (dI l.length)),(26, .d (dI k))]) (fun k=>mkH [(23, .row 3 1 ((M3 l ws k).map iv))]) (fun k=>l.length - k) (0) (⟨Nat.zero_le _,fun j hj=>absurd hj (Nat.not_lt_zero _)⟩) ?_ ?_ ?_
 exact fz ⟨sr,sr,sr,sr,sr,trivial⟩
 exact gz ⟨R,trivial⟩
 intro k hk0
 obtain ⟨hk,hall⟩:=hk0
 refine zr<|zp (Av R R R)<|zn<|zs<|?_
 refine zd R (fun c27=> ?_) (fun c27=> ?_)
 have hk0a:k<l.length:=by omega
 obtain ⟨x0,hx0⟩:=Ax hk0a
 have hll:=Ahg l ws k
 refine zi<|zs<|Ah<|zr<|zm R R<|za R R<|znr<|zm R R<|zm R R<|zm R R<|XL.call1 R R (Ann _ _ _ _ hx0 hT) R<|zm R R<|zp (Ap R R R)<|zp (Ap R R R)<|?_
 refine za R R<|za R R<|zn<|zs<|zr<|zm R R<|zp (Du R R)<|zn<|?_
 refine Ex (by kernel_rfl) R (fun c37=> ?_) (fun c37=> ?_)
 refine zr<|za R R<|za R R<|zn<|zt<|?_
 exact Ay R (RV.nil (sz:=1) R R) (RV.tmp R R) (r2 (rSl (Apu c19 hx0 c37).1) (rI (Apu c19 hx0 c37).2))
 refine zi<|Ag (by kernel_rfl)<|zp (Aq R (by conv=>lhs;whnf))<|?_
 refine zm R R<|XL.step R (Bj 40 R Tryz.underlying45 Ep Hc R R (by omega) (by omega))<|XL.step R (A3 R Qh (.own R) (Src.own R) (by unfold maxLen;simp;omega) (by simp;omega))<|zp (As R (by conv=>lhs;whnf))<|?_
 refine zn<|Ag (by kernel_rfl)<|zp (Ak R R R (by omega) (by omega))<|zm R R<|zn<|?_
 exact Al (k+1) (⟨by omega,fun j hj=>by by_cases e:j=k;(· subst e;rw [L6 hx0];exact (by simpa using c37));(· exact hall j (by omega))⟩) (by omega) (fz ⟨sr,sr,sr,sr,sr,trivial⟩) (gz ⟨It rfl (Afg hx0),trivial⟩)
 have hk0b:k=l.length:=by omega
 have ha:Lt l ws:=fun j hj=>hall j (by omega)
 refine At<|zr<|zp (Aq R (by conv=>lhs;whnf))<|?_
 refine zp (As R (by conv=>lhs;whnf))<|?_
 refine za R R<|zn<|zt<|B5 (i:=23) R<|?_
 exact Ay R (RV.tmp R R) (RV.tmp R R) (r2 (rSl (by rw [hk0b];exact (Apt c19 ha).1)) (rI (Apt c19 ha).2))
def Hf (l:List Tp) (n:Int):Int:=if Dx l 128≠0 then 0 else (hits l n:Int)
theorem Aly {l:List Tp} {k:Nat} {t:Tp} {n:Int} (h:l[k]? =some t) (ht:t.has n):hits (l.take (k+1)) n=hits (l.take k) n+1:=by rw [Bn h,H6,if_pos ht]
theorem Aow {l:List Tp} {k:Nat} {t:Tp} {n:Int} (h:l[k]? =some t) (ht:¬t.has n):hits (l.take (k+1)) n=hits (l.take k) n:=by rw [Bn h,H6,if_neg ht];rfl
theorem Ami (l:List Tp) (n:Int) (h0:0≤n) (h1:n≤128):XC Tryz.prog 152 [.sl 4 (l.map Tp.c), .v (.int .i64 n)] (fun r=>r=dI (Hf l n)):=by
 refine Am Abc Tryz.func152 R R lb<|zr<|za R R<|zn<|zs<|zr<|zm R R<|XL.call1 R R (Vq _ _) R<|zp (A5 R R R)<|zn<|?_
 refine zd R (fun c10=> ?_) (fun c10=> ?_)
 exact zr<|za R R<|zn<|zt<|z1 R R (rI (by rw [Hf,if_pos c10]))
 refine zi<|zs<|?_
 have hT:=Uy c10
 refine Ag (by kernel_rfl)<|za R R<|zn<|zs<|zr<|zm R R<|XL.len R R R Tryz.underlying80 fun hl12=>zm R R<|zn<|Ah<|?_
 refine Az (α:=Nat) (fun k=>k≤l.length) (fun k=>mkF [(1, .d (dI n)),(4, .d (dI 0)),(5, .d (dI (hits (l.take k) n:Int))),(11, .d (.sl 4 (l.map Tp.c))),(12, .d (dI l.length)),(13, .d (dI k))]) (fun k=>mkH []) (fun k=>l.length - k) (0) (Nat.zero_le _) ?_ ?_ ?_
 exact fz ⟨sr,sr,sr,sr,sr,sr,trivial⟩
 exact HSub.nil
 intro k hk0
 refine zr<|zp (Av R R R)<|zn<|zs<|?_
 refine zd R (fun c14=> ?_) (fun c14=> ?_)
 have hk0a:k<l.length:=by omega
 obtain ⟨x0,hx0⟩:=Ax hk0a
 have hok:=hT.ok x0 (List.mem_of_getElem? hx0)
 have hle:=Nat.le_trans (P9 l k n) (hT.hits n)
 refine zi<|zs<|Ah<|zr<|zp (Ar R R R E6 hx0)<|zp (Ae (s':= .d (.agg (Tp.c x0))) (A8 R R B7 lb) (by kernel_rfl))<|XL.step R (Ao 7 (l:= [.d (dI 0), .d (dI 0), .d (dI 0), .d (dI 0)]) R Dn (by kernel_rfl))<|XL.step R (Af (l':= [.d (dI x0.first), .d (dI x0.count), .d (dI x0.actual), .d (dI x0.normal)]) R R R R Eu R lb (by kernel_rfl))<|znr<|?_
 refine zp (Ae (s':= .d (.agg (Tp.c x0))) (Ac (Ad R R B7 R lb)) (by kernel_rfl))<|zm R R<|XL.call1 R R (Rs _ _ (by assumption) (by omega) (by omega)) R<|zn<|?_
 refine zd R (fun c19=> ?_) (fun c19=> ?_)
 refine Ag (by kernel_rfl)<|zm R R<|zp (Ak R R R (by omega) (by omega))<|za R R<|zn<|Ag (by kernel_rfl)<|zp (Ak R R R (by omega) (by omega))<|zm R R<|zn<|?_
 exact Al (k+1) (by omega) (by omega) (fz ⟨sr,sr, .same (sI (by rw [Aly hx0 c19];rfl)),sr,sr,sr,trivial⟩) (HSub.nil)
 refine zi<|Ag (by kernel_rfl)<|zp (Ak R R R (by omega) (by omega))<|zm R R<|zn<|?_
 exact Al (k+1) (by omega) (by omega) (fz ⟨sr,sr, .same (sI (by rw [Aow hx0 c19])),sr,sr,sr,trivial⟩) (HSub.nil)
 have hk0b:k=l.length:=by omega
 have ht:l.take k=l:=by rw [hk0b,List.take_length]
 exact At<|zr<|zm R R<|za R R<|zn<|zt<|z1 R R (rI (by rw [Hf,if_neg c10,ht]))
end Go.Proofs.YtaafemnkamfgnaaGreat
namespace Go.Proofs.YtaafemnkamfgnaaGreat
open Go.RowKit
def tot (l:List Int):Int:=l.foldl (· + ·) 0
theorem Od (l:List Int) (x:Int):tot (l++ [x])=tot l+x:=by unfold tot;rw [List.foldl_append];rfl
theorem L8 {l:List Int} {k:Nat} {x:Int} (h:l[k]? =some x):tot (l.take (k+1))=tot (l.take k)+x:=by rw [Bn h,Od]
structure Nums (l:List Int):Prop where
 len:l.length≤128
 bd:∀x∈l,0≤x∧x≤253671505920
theorem Anq {l:List Int}:(∀x∈l,0≤x∧x≤253671505920)→0≤tot l∧tot l≤(l.length:Int)*253671505920:=by
 refine R3 (p:=fun l=>(∀x∈l,0≤x∧x≤253671505920)→0≤tot l∧tot l≤(l.length:Int)*253671505920) (fun _=>by simp [tot]) (fun l x ih h=> ?_) l
 have h1:=ih fun y hy=>h y (List.mem_append_left _ hy)
 have h2:=h x (List.mem_append_right _ (List.mem_singleton.2 rfl))
 rw [Od,List.length_append,List.length_singleton,Int.natCast_add,Int.add_mul]
 omega
theorem Nums.tot {l:List Int} (h:Nums l):0≤Go.Proofs.YtaafemnkamfgnaaGreat.tot l∧Go.Proofs.YtaafemnkamfgnaaGreat.tot l≤32469952757760:=by
 have:=Anq h.bd
 have:=h.len
 omega
theorem Nums.take {l:List Int} (h:Nums l) (k:Nat):Nums (l.take k):=⟨Nat.le_trans (List.length_take_le' _ _) h.len,fun x hx=>h.bd x (List.mem_of_mem_take hx)⟩
def Evs (l:List Ev):Prop:=∀e∈l,e.art≤9223372036854775807
def wrS (l:List Ev):List Int:=l.map Ev.len
theorem Akk (l:List Int) (h:Nums l):XC Tryz.prog 116 [.sl 1 (B6 l)] (fun r=>r=dI (tot l)):=by
 refine Am Abp Tryz.func116 R R lb<|zr<|za R R<|znr<|za R R<|zn<|zs<|zr<|zm R R<|XL.len R R R Tryz.underlying45 fun hl7=>zm R R<|zn<|Ah<|?_
 refine Az (α:=Nat) (fun k=>k≤l.length) (fun k=>mkF [(2, .d (dI 0)),(3, .d (dI (tot (l.take k)))),(6, .d (.sl 1 (B6 l))),(7, .d (dI l.length)),(8, .d (dI k))]) (fun k=>mkH []) (fun k=>l.length - k) (0) (Nat.zero_le _) ?_ ?_ ?_
 exact fz ⟨sr,sr,sr,sr,sr,trivial⟩
 exact HSub.nil
 intro k hk0
 refine zr<|zp (Av R R R)<|zn<|zs<|?_
 refine zd R (fun c9=> ?_) (fun c9=> ?_)
 have hk0a:k<l.length:=by omega
 obtain ⟨x0,hx0⟩:=Ax hk0a
 have h1:=(h.take k).tot
 have h2:=h.bd x0 (List.mem_of_getElem? hx0)
 refine zi<|zs<|Ah<|zr<|zp (Ar R R R C7 hx0)<|zp (A4 R R Ai)<|za R R<|zng<|zm R R<|zm R R<|zp (Ak R R R (by omega) (by omega))<|za R R<|zn<|Ag (by kernel_rfl)<|?_
 refine zp (Ak R R R (by omega) (by omega))<|zm R R<|zn<|?_
 exact Al (k+1) (by omega) (by omega) (fz ⟨sr, .same (sI (by rw [L8 hx0])),sr,sr,sr,trivial⟩) (HSub.nil)
 have hk0b:k=l.length:=by omega
 have ht:l.take k=l:=by rw [hk0b,List.take_length]
 exact At<|zr<|zm R R<|za R R<|zn<|zt<|z1 R R (rI (by rw [ht]))
def Jt (l:List Int) (k:Nat):List Int:=(List.range l.length).map fun j=>if j<k then tot (l.take j) else 0
def A6 (l:List Int):List Int:=(List.range l.length).map fun j=>tot (l.take j)
theorem Yl (l:List Int) (k:Nat):(Jt l k).length=l.length:=by rw [Jt,List.length_map,List.length_range]
theorem Alg (l:List Int):List.replicate l.length (0:Int)=Jt l 1:=by
 rw [Jt]
 refine List.ext_getElem? fun j=> ?_
 rw [List.getElem?_replicate,List.getElem?_map]
 by_cases h:j<l.length
 ·rw [if_pos h,List.getElem?_range h,Option.map_some]
  congr 1
  split
  ·have:j=0:=by omega
   subst this;rfl
  ·rfl
 ·rw [if_neg h,List.getElem?_eq_none (by rw [List.length_range];omega)];rfl
theorem Ym {l:List Int} {j k:Nat} (h:j<k) (hj:j<l.length):(Jt l k)[j]? =some (tot (l.take j)):=by
 rw [Jt,List.getElem?_map,List.getElem?_range hj,Option.map_some,if_pos h]
theorem Alf {l:List Int} {k:Nat} (hk:k<l.length):(Jt l k).set k (tot (l.take k))=Jt l (k+1):=by
 refine List.ext_getElem? fun j=> ?_
 rw [List.getElem?_set]
 split
 ·rename_i h
  subst h
  rw [if_pos (by rw [Yl];exact hk),Ym (by omega) hk]
 ·rename_i h
  rw [Jt,Jt,List.getElem?_map,List.getElem?_map]
  by_cases hj:j<l.length
  ·rw [List.getElem?_range hj,Option.map_some,Option.map_some]
   congr 1
   by_cases e:j<k
   ·rw [if_pos e,if_pos (by omega)]
   ·rw [if_neg e,if_neg (by omega)]
  ·rw [List.getElem?_eq_none (by rw [List.length_range];omega)];rfl
theorem Alh {l:List Int} {k:Nat} (hk:l.length≤k):Jt l k=A6 l:=by
 rw [Jt,A6]
 refine List.map_congr_left fun j hj=> ?_
 rw [if_pos (by have:=List.mem_range.1 hj;omega)]
theorem V4 (l:List Int) (h:Nums l):XC Tryz.prog 96 [.sl 1 (B6 l)] (fun r=>r= .sl 1 (B6 (A6 l))):=by
 have hll:=h.len
 refine Am Acq Tryz.func96 R R lb<|zr<|za R R<|znr<|zm R R<|XL.len R R R Tryz.underlying45 fun hl6=>XL.step R (N4 7 (z:=(.int .i64 0)) (zs:= [dI 0]) (sz:=1) (bytes:=8) R R R Tryz.underlying45 (by kernel_rfl) (by kernel_rfl) (by kernel_rfl) (by decide) (by decide) (by omega) (by unfold maxLen;omega) (by omega))<|zp (As R (by conv=>lhs;whnf))<|?_
 refine zn<|zs<|zr<|za R R<|zn<|Ah<|?_
 refine Az (α:=Nat) (fun k=>1≤k∧k≤l.length+1) (fun k=>mkF [(0, .d (.sl 1 (B6 l))),(2, .d (.v (.slice none 0 0))),(3, .own 7),(4, .d (dI k))]) (fun k=>mkH [(7, .row 3 1 ((Jt l k).map iv))]) (fun k=>l.length+1 - k) (1) (⟨Nat.le_refl _,by omega⟩) ?_ ?_ ?_
 exact fz ⟨sr,sr,sr,sr,trivial⟩
 exact gz ⟨by rw [←Alg,List.map_replicate];rfl,trivial⟩
 intro k hk0
 refine zs<|zr<|zm R R<|zm R R<|XL.len R R R Tryz.underlying45 fun hl10=>zp (Av R R R)<|zn<|?_
 refine zd R (fun c11=> ?_) (fun c11=> ?_)
 have hkl:k<l.length:=by omega
 have h1:=(h.take (k - 1)).tot
 obtain ⟨x,hx⟩:∃x,l[k - 1]? =some x:=Ax (by omega)
 have h2:=h.bd x (List.mem_of_getElem? hx)
 have ho:=Ym (l:=l) (k:=k) (j:=k - 1) (by omega) (by omega)
 have hol:=Yl l k
 obtain ⟨z,hz⟩:∃z,(Jt l k)[k]? =some z:=Ax (by omega)
 have htk:tot (l.take k)=tot (l.take (k - 1))+x:=by have:=L8 hx;rwa [Nat.sub_add_cancel (by omega)] at this
 refine zi<|zs<|Ah<|Ca 13 [] (by kernel_rfl) (by kernel_rfl) (by kernel_rfl) (by kernel_rfl) (by decide)<|yp (Aq R (by conv=>lhs;whnf))<|?_
 refine ym R R<|yp (Aq R (by conv=>lhs;whnf))<|?_
 refine ym R R<|yp (E3 R R R (by omega) (by omega))<|yp (Cn R R R ((by omega:(k:Int) - 1=((k - 1:Nat):Int))) R C7 (by omega))<|yp (Ih R R Ai R (C6 (ho)) R)<|ym R R<|ym R R<|yp (E3 R R R (by omega) (by omega))<|yp (E4 R R R ((by omega:(k:Int) - 1=((k - 1:Nat):Int))) C7 (hx))<|yp (A4 R R Ai)<|yp (Ak R R R (by omega) (by omega))<|?_
 refine ChK.nil ⟨by kernel_rfl, ?_⟩
 refine zp (Jp R R R R C7 (by omega))<|XL.step R (E7 R R R (C6 hz) R R Ep R lb)<|zn<|Ag (by kernel_rfl)<|zm R R<|zp (Ak R R R (by omega) (by omega))<|za R R<|zn<|?_
 exact Al (k+1) (by omega) (by omega) (fz ⟨sr,sr,sr,sr,trivial⟩) (gz ⟨Pw (a:=tot (l.take k)) (by rw [htk];rfl) (Alf hkl).symm,trivial⟩)
 have he:=Alh (l:=l) (k:=k) (by omega)
 refine At<|zr<|zp (Aq R (by conv=>lhs;whnf))<|?_
 refine zp (As R (by conv=>lhs;whnf))<|?_
 exact zn<|zt<|B5 (i:=7) R<|z1 R R (rSl he)
end Go.Proofs.YtaafemnkamfgnaaGreat
namespace Go.Proofs.YtaafemnkamfgnaaGreat
open Go.RowKit
def In (f:Nat→Int) (n k:Nat):List Int:=(List.range n).map fun j=>if j<k then f j else 0
theorem Wr (f:Nat→Int) (n k:Nat):(In f n k).length=n:=by rw [In,List.length_map,List.length_range]
theorem Ago (f:Nat→Int) (n:Nat):List.replicate n (0:Int)=In f n 0:=by
 rw [In]
 refine List.ext_getElem? fun j=> ?_
 rw [List.getElem?_replicate,List.getElem?_map]
 by_cases h:j<n
 ·rw [if_pos h,List.getElem?_range h,Option.map_some,if_neg (by omega)]
 ·rw [if_neg h,List.getElem?_eq_none (by rw [List.length_range];omega)];rfl
theorem Ajj {f:Nat→Int} {n k:Nat} (hk:k<n):In f n (k+1)=(In f n k).set k (f k):=by
 refine List.ext_getElem? fun j=> ?_
 rw [List.getElem?_set]
 split
 ·rename_i h
  subst h
  rw [if_pos (by rw [Wr];exact hk),In,List.getElem?_map,List.getElem?_range hk,Option.map_some,if_pos (by omega)]
 ·rename_i h
  rw [In,In,List.getElem?_map,List.getElem?_map]
  by_cases hj:j<n
  ·rw [List.getElem?_range hj,Option.map_some,Option.map_some]
   congr 1
   by_cases e:j<k
   ·rw [if_pos e,if_pos (by omega)]
   ·rw [if_neg e,if_neg (by omega)]
  ·rw [List.getElem?_eq_none (by rw [List.length_range];omega)];rfl
theorem Ajk {f:Nat→Int} {n k:Nat} (hk:n≤k):In f n k=(List.range n).map f:=by
 rw [In]
 refine List.map_congr_left fun j hj=> ?_
 rw [if_pos (by have:=List.mem_range.1 hj;omega)]
def Ln (l:List Ev) (j:Nat):Int:=((l[j]?).map Ev.len).getD 0
theorem Als {l:List Ev} {k:Nat} {e:Ev} (h:l[k]? =some e):Ln l k=e.len:=by rw [Ln,h];rfl
theorem Aix (l:List Ev):(List.range l.length).map (Ln l)=wrS l:=by
 refine List.ext_getElem? fun j=> ?_
 rw [List.getElem?_map,wrS,List.getElem?_map]
 by_cases hj:j<l.length
 ·rw [List.getElem?_range hj,Option.map_some,Ln,List.getElem?_eq_getElem hj];rfl
 ·rw [List.getElem?_eq_none (by rw [List.length_range];omega),List.getElem?_eq_none (by omega)];rfl
theorem Ab4 (l:List Ev) (hE:Evs l) (hlen:l.length≤128):XC Tryz.prog 168 [.sl 13 (l.map Ev.c)] (fun r=>r= .sl 1 (B6 (wrS l))):=by
 refine Am Aaw Tryz.func168 R R lb<|zr<|za R R<|znr<|zm R R<|XL.len R R R Tryz.underlying79 fun hl7=>XL.step R (N4 8 (z:=(.int .i64 0)) (zs:= [dI 0]) (sz:=1) (bytes:=8) R R R Tryz.underlying45 (by kernel_rfl) (by kernel_rfl) (by kernel_rfl) (by decide) (by decide) (by omega) (by unfold maxLen;omega) (by omega))<|zp (As R (by conv=>lhs;whnf))<|?_
 refine zn<|zs<|zr<|zm R R<|XL.len R R R Tryz.underlying79 fun hl10=>zm R R<|zn<|Ah<|?_
 refine Az (α:=Nat) (fun k=>k≤l.length) (fun k=>mkF [(2, .d (.v (.slice none 0 0))),(3, .own 8),(9, .d (.sl 13 (l.map Ev.c))),(10, .d (dI l.length)),(11, .d (dI k))]) (fun k=>mkH [(8, .row 3 1 ((In (Ln l) l.length k).map iv))]) (fun k=>l.length - k) (0) (Nat.zero_le _) ?_ ?_ ?_
 exact fz ⟨sr,sr,sr,sr,sr,trivial⟩
 exact gz ⟨by rw [←Ago,List.map_replicate];rfl,trivial⟩
 intro k hk0
 refine zr<|zp (Av R R R)<|zn<|zs<|?_
 refine zd R (fun c12=> ?_) (fun c12=> ?_)
 have hk0a:k<l.length:=by omega
 obtain ⟨x0,hx0⟩:=Ax hk0a
 have he:=hE x0 (List.mem_of_getElem? hx0)
 have hfl:=Wr (Ln l) l.length k
 obtain ⟨z,hz⟩:∃z,(In (Ln l) l.length k)[k]? =some z:=Ax (by omega)
 refine zi<|zs<|Ah<|zr<|zm R R<|zp (Ar R R R Gn hx0)<|zp (Ae (s':= .d (.agg (Ev.c x0))) (A8 R R Bm lb) (by kernel_rfl))<|XL.step R (Ao 5 (l:= [.d (dI 0), .d (dI 0), .d (dI 0), .d (dI 0), .d (dI 0), .d (.v (.slice none 0 0)), .d (.v (.slice none 0 0)), .d (dI 0), .d (dI 0), .d (dI 0), .d (.v (.slice none 0 0)), .d (dI 0), .d (dI 0)]) R B8 (by kernel_rfl))<|?_
 refine za R R<|XL.step R (Af (l':= [.d (dI x0.site), .d (dI x0.num), .d (dI x0.kind), .d (dI x0.v.log), .d (dI x0.v.dots), .d (.sl 5 (x0.heads.map Hd.c)), .d (.sl 5 (x0.graces.map Gr.c)), .d (dI x0.art), .d (dI x0.orn), .d (dI x0.dyn), .d (.sl 2 (x0.lyr.map Sy.c)), .d (dI x0.stem), .d (dI x0.beam)]) R R R R Cx R lb (by kernel_rfl))<|zng<|zp (Aq R (by conv=>lhs;whnf))<|?_
 refine zm R R<|zp (Ae (s':= .d (.agg (Ev.c x0))) (Ac (Ad R R Bm R lb)) (by kernel_rfl))<|XL.call1 R R (Ae7 _ (by assumption)) R<|zm R R<|zp (Ap R R R)<|zp (Ap R R R)<|zp (Jp R R R R C7 (by omega))<|XL.step R (E7 R R R (C6 hz) R R Ep R lb)<|zn<|Ag (by kernel_rfl)<|zp (Ak R R R (by omega) (by omega))<|zm R R<|zn<|?_
 exact Al (k+1) (by omega) (by omega) (fz ⟨sr,sr,sr,sr,sr,trivial⟩) (gz ⟨Pw (a:=Ln l k) (by rw [Als hx0];rfl) (Ajj hk0a),trivial⟩)
 have hk0b:k=l.length:=by omega
 have he:=Ajk (f:=Ln l) (n:=l.length) (k:=k) (by omega)
 refine At<|zr<|zp (Aq R (by conv=>lhs;whnf))<|?_
 refine zp (As R (by conv=>lhs;whnf))<|?_
 exact zn<|zt<|B5 (i:=8) R<|z1 R R (rSl (by rw [he,Aix]))
def Vo.whole (v:Vo):Prop:=match v.evs with| []=>False|e::_=>e.kind=3
instance (v:Vo):Decidable v.whole:=by unfold Vo.whole;cases v.evs<;>exact inferInstance
theorem J7 {v:Vo} {e:Ev} (h:v.evs[0]? =some e):v.whole↔e.kind=3:=by
 unfold Vo.whole
 cases hv:v.evs with
 |nil=>rw [hv] at h;cases h
 |cons x l=>rw [hv] at h;cases h;exact Iff.rfl
theorem Akh {v:Vo} (h:¬0<(v.evs.length:Int)):¬v.whole:=by
 unfold Vo.whole
 cases hv:v.evs with
 |nil=>exact fun h=>h
 |cons x l=>rw [hv] at h;simp at h
def Vo.absent (v:Vo):Prop:=v.evs.length=0∧v.tups.length=0
instance (v:Vo):Decidable v.absent:=by unfold Vo.absent;exact inferInstance
theorem Akg (v:Vo):XC Tryz.prog 143 [.agg (Vo.c v)] (fun r=>r=dB (decide v.whole)):=by
 refine Am Abf Tryz.func143 R R lb<|zr<|XL.step R (An 1 (l:= [.d (.sl 13 (v.evs.map Ev.c)), .d (.sl 4 (v.tups.map Tp.c))]) R R (by kernel_rfl))<|za R R<|znr<|zp (Aa R R Bl)<|zp (Ab R R Cy R R)<|XL.len R R R Tryz.underlying79 fun hl5=>zp (Ba R R R)<|zm R R<|?_
 refine XL.dec 7 R (fun g7=> ?_) (fun g7=> ?_)
 obtain ⟨e,he⟩:∃e,v.evs[0]? =some e:=Ax (by omega)
 exact zp (Aa R R Bl)<|zp (Ab R R Cy R R)<|zp (Ar (k:=0) R R R Gn (he))<|zp (D1 R R Db)<|zp (A4 R R Ai)<|zp (Bb R R R)<|zq R R R<|za R R<|zn<|zt<|z1 R R (rB (by rw [decide_eq_decide];exact (J7 he).symm))
 exact zk 6 R<|zq R R R<|za R R<|zn<|zt<|z1 R R (rB (by rw [eq_comm,decide_eq_false_iff_not];exact Akh g7))
theorem Afc (v:Vo):XC Tryz.prog 129 [.agg (Vo.c v)] (fun r=>r=dB (decide v.absent)):=by
 refine Am Abn Tryz.func129 R R lb<|zr<|XL.step R (An 1 (l:= [.d (.sl 13 (v.evs.map Ev.c)), .d (.sl 4 (v.tups.map Tp.c))]) R R (by kernel_rfl))<|za R R<|znr<|zp (Aa R R Bl)<|zp (Ab R R Cy R R)<|XL.len R R R Tryz.underlying79 fun hl5=>zp (Bb R R R)<|zm R R<|?_
 refine XL.dec 7 R (fun g7=> ?_) (fun g7=> ?_)
 exact zp (Aa R R B0)<|zp (Ab R R B1 R R)<|XL.len R R R Tryz.underlying80 fun hl10=>zp (Bb R R R)<|zq R R R<|za R R<|zn<|zt<|z1 R R (rB (by rw [decide_eq_decide];unfold Vo.absent;omega))
 exact zk 4 R<|zq R R R<|za R R<|zn<|zt<|z1 R R (rB (by rw [eq_comm,decide_eq_false_iff_not];unfold Vo.absent;omega))
def Gf (n:Nat):Nat→List Ev→Int
 |_, []=>0
 |k,e::r=>if e.err≠0 then e.err else if e.kind=3∧(0<k∨1<n) then 11 else Gf n (k+1) r
def E9 (v:Vo):Int:=
 if Gf v.evs.length 0 v.evs≠0 then Gf v.evs.length 0 v.evs else if C0 v.tups (wrS v.evs)≠0 then C0 v.tups (wrS v.evs) else if Et v.tups (wrS v.evs)≠0 then 21 else 0
def Gd (v:Vo):List Int:=if E9 v=0 then G1 v.tups (wrS v.evs) else []
theorem Y1 {n k:Nat} {l:List Ev} {e:Ev} (h:l[k]? =some e) (he:e.err≠0):Gf n k (l.drop k)=e.err:=by rw [Bq h,Gf,if_pos he]
theorem Nk {n k:Nat} {l:List Ev} {e:Ev} (h:l[k]? =some e) (he:¬e.err≠0) (hk:e.kind=3∧(0<k∨1<n)):Gf n k (l.drop k)=11:=by rw [Bq h,Gf,if_neg he,if_pos hk]
theorem Wi {n k:Nat} {l:List Ev} {e:Ev} (h:l[k]? =some e) (he:¬e.err≠0) (hk:¬(e.kind=3∧(0<k∨1<n))):Gf n k (l.drop k)=Gf n (k+1) (l.drop (k+1)):=by rw [Bq h,Gf,if_neg he,if_neg hk]
theorem Rc {v:Vo} {e:Int} (he:e=Gf v.evs.length 0 v.evs) (hn:e≠0): []=Gd v∧e=E9 v:=by
 have e2:E9 v=e:=by rw [E9, ←he,if_pos hn]
 exact ⟨by rw [Gd,e2,if_neg hn],e2.symm⟩
theorem Am4 {v:Vo} (h:Gf v.evs.length 0 v.evs=0) (hn:C0 v.tups (wrS v.evs)≠0): []=Gd v∧C0 v.tups (wrS v.evs)=E9 v:=by
 have e2:E9 v=C0 v.tups (wrS v.evs):=by rw [E9,if_neg (by omega),if_pos hn]
 exact ⟨by rw [Gd,e2,if_neg hn],e2.symm⟩
theorem Am3 {v:Vo} (h:Gf v.evs.length 0 v.evs=0) (h2:¬C0 v.tups (wrS v.evs)≠0) (hn:Et v.tups (wrS v.evs)≠0): []=Gd v∧21=E9 v:=by
 have e2:E9 v=21:=by rw [E9,if_neg (by omega),if_neg h2,if_pos hn]
 exact ⟨by rw [Gd,e2,if_neg (by decide)],e2.symm⟩
theorem Am2 {v:Vo} (h:Gf v.evs.length 0 v.evs=0) (h2:¬C0 v.tups (wrS v.evs)≠0) (h3:¬Et v.tups (wrS v.evs)≠0):G1 v.tups (wrS v.evs)=Gd v∧0=E9 v:=by
 have e2:E9 v=0:=by rw [E9,if_neg (by omega),if_neg h2,if_neg h3]
 exact ⟨by rw [Gd,e2,if_pos rfl],e2.symm⟩
theorem Y0 (v:Vo) (hE:Evs v.evs) (hlen:v.evs.length≤128):XC Tryz.prog 145 [.agg (Vo.c v)] (fun r=>r= .tup [.sl 1 (B6 (Gd v)),dI (E9 v)]):=by
 refine Am Abd Tryz.func145 R R lb<|zr<|XL.step R (An 1 (l:= [.d (.sl 13 (v.evs.map Ev.c)), .d (.sl 4 (v.tups.map Tp.c))]) R R (by kernel_rfl))<|za R R<|za R R<|zn<|zs<|zr<|zp (Aa R R Bl)<|zp (Ab R R Cy R R)<|XL.len R R R Tryz.underlying79 fun hl14=>zm R R<|zn<|Ah<|?_
 refine Az (α:=Nat) (fun k=>k≤v.evs.length∧Gf v.evs.length k (v.evs.drop k)=Gf v.evs.length 0 v.evs) (fun k=>mkF [(1, .ptr 1 0 0),(13, .d (.sl 13 (v.evs.map Ev.c))),(14, .d (dI v.evs.length)),(15, .d (dI k))]) (fun k=>mkH [(1, .box ((Vo.c v).map S.d))]) (fun k=>v.evs.length - k) (0) (⟨Nat.zero_le _,by rw [List.drop_zero]⟩) ?_ ?_ ?_
 exact fz ⟨sr,sr,sr,sr,trivial⟩
 exact gz ⟨R,trivial⟩
 intro k hk0
 obtain ⟨hk,hgo⟩:=hk0
 refine zr<|zp (Av R R R)<|zn<|zs<|?_
 refine zd R (fun c16=> ?_) (fun c16=> ?_)
 have hk0a:k<v.evs.length:=by omega
 obtain ⟨x0,hx0⟩:=Ax hk0a
 have he:=hE x0 (List.mem_of_getElem? hx0)
 refine zi<|zs<|Ah<|zr<|zm R R<|zp (Ar R R R Gn hx0)<|zp (Ae (s':= .d (.agg (Ev.c x0))) (A8 R R Bm lb) (by kernel_rfl))<|XL.step R (Ao 5 (l:= [.d (dI 0), .d (dI 0), .d (dI 0), .d (dI 0), .d (dI 0), .d (.v (.slice none 0 0)), .d (.v (.slice none 0 0)), .d (dI 0), .d (dI 0), .d (dI 0), .d (.v (.slice none 0 0)), .d (dI 0), .d (dI 0)]) R B8 (by kernel_rfl))<|?_
 refine za R R<|XL.step R (Af (l':= [.d (dI x0.site), .d (dI x0.num), .d (dI x0.kind), .d (dI x0.v.log), .d (dI x0.v.dots), .d (.sl 5 (x0.heads.map Hd.c)), .d (.sl 5 (x0.graces.map Gr.c)), .d (dI x0.art), .d (dI x0.orn), .d (dI x0.dyn), .d (.sl 2 (x0.lyr.map Sy.c)), .d (dI x0.stem), .d (dI x0.beam)]) R R R R Cx R lb (by kernel_rfl))<|zn<|zs<|zr<|?_
 refine zp (Ae (s':= .d (.agg (Ev.c x0))) (Ac (Ad R R Bm R lb)) (by kernel_rfl))<|XL.call1 R R (Qj _ (by assumption)) R<|za R R<|znr<|zm R R<|zp (A5 R R R)<|zn<|?_
 refine zd R (fun c23=> ?_) (fun c23=> ?_)
 refine zr<|zm R R<|za R R<|za R R<|zn<|zt<|?_
 exact Ay R (RV.nil (sz:=1) R R) (RV.tmp R R) (r2 (rSl (Rc (by rw [←hgo,Y1 hx0 c23]) c23).1) (rI (Rc (by rw [←hgo,Y1 hx0 c23]) c23).2))
 refine zi<|zr<|zp (Aa R R Db)<|zp (Ab R R Ai R R)<|zp (Bb R R R)<|zm R R<|?_
 refine XL.dec 28 R (fun g28=> ?_) (fun g28=> ?_)
 refine zm R R<|zp (Ba R R R)<|zm R R<|?_
 refine XL.dec 31 R (fun g31=> ?_) (fun g31=> ?_)
 refine zk 4 R<|zq R R R<|zq R R R<|zn<|Aw (by kernel_rfl) R<|zr<|za R R<|za R R<|zn<|zt<|?_
 exact Ay R (RV.nil (sz:=1) R R) (RV.tmp R R) (r2 (rSl (Rc (e:=11) (by rw [←hgo,Nk hx0 c23 (by omega)]) (by decide)).1) (rI (Rc (by rw [←hgo,Nk hx0 c23 (by omega)]) (by decide)).2))
 refine zp (Aa R R Bl)<|zp (Ab R R Cy R R)<|XL.len R R R Tryz.underlying79 fun hl34=>zp (Ba R R R)<|zq R R R<|zq R R R<|zn<|?_
 refine zd R (fun c37=> ?_) (fun c37=> ?_)
 refine zr<|za R R<|za R R<|zn<|zt<|?_
 exact Ay R (RV.nil (sz:=1) R R) (RV.tmp R R) (r2 (rSl (Rc (e:=11) (by rw [←hgo,Nk hx0 c23 (by omega)]) (by decide)).1) (rI (Rc (by rw [←hgo,Nk hx0 c23 (by omega)]) (by decide)).2))
 refine zi<|Ag (by kernel_rfl)<|zp (Ak R R R (by omega) (by omega))<|zm R R<|zn<|?_
 exact Al (k+1) (⟨by omega,by rw [←Wi hx0 c23 (by omega)];exact hgo⟩) (by omega) (fz ⟨sr,sr,sr,sr,trivial⟩) (gz ⟨rfl,trivial⟩)
 refine zk 8 R<|zq R R R<|zn<|A7 (by kernel_rfl) R<|zi<|Ag (by kernel_rfl)<|zp (Ak R R R (by omega) (by omega))<|zm R R<|zn<|?_
 exact Al (k+1) (⟨by omega,by rw [←Wi hx0 c23 (by omega)];exact hgo⟩) (by omega) (fz ⟨sr,sr,sr,sr,trivial⟩) (gz ⟨rfl,trivial⟩)
 have hk0b:k=v.evs.length:=by omega
 have hz:Gf v.evs.length 0 v.evs=0:=by rw [←hgo,hk0b,List.drop_length];rfl
 refine At<|zr<|zp (Aa R R Bl)<|zp (Ab R R Cy R R)<|XL.call1 R R (Ab4 _ (by assumption) (by omega)) R<|za R R<|znr<|zp (Aa R R B0)<|zp (Ab R R B1 R R)<|zm R R<|XL.call1 R R (Rl _ _) R<|zm R R<|zp (Ap R R R)<|zp (Ap R R R)<|?_
 refine za R R<|za R R<|zn<|zs<|zr<|zm R R<|zp (A5 R R R)<|zn<|?_
 refine zd R (fun c50=> ?_) (fun c50=> ?_)
 refine zr<|zm R R<|za R R<|za R R<|zn<|zt<|?_
 exact Ay R (RV.nil (sz:=1) R R) (RV.tmp R R) (r2 (rSl (Am4 hz c50).1) (rI (Am4 hz c50).2))
 refine zi<|zs<|zr<|zp (Aa R R B0)<|zp (Ab R R B1 R R)<|zm R R<|XL.call1 R R (Aki _ _) R<|zm R R<|zp (Ap R R R)<|zp (Ap R R R)<|za R R<|za R R<|znr<|zm R R<|?_
 refine zp (A5 R R R)<|zn<|?_
 refine zd R (fun c60=> ?_) (fun c60=> ?_)
 refine zr<|za R R<|za R R<|zn<|zt<|?_
 exact Ay R (RV.nil (sz:=1) R R) (RV.tmp R R) (r2 (rSl (Am3 hz c50 c60).1) (rI (Am3 hz c50 c60).2))
 refine zi<|zr<|zm R R<|za R R<|za R R<|zn<|zt<|?_
 exact Ay R (RV.tmp R R) (RV.tmp R R) (r2 (rSl (Am2 hz c50 c60).1) (rI (Am2 hz c50 c60).2))
def Dd (v:Vo) (L:Int):Int:=
 if L<1∨15482880<L then 2 else if 128<v.evs.length then 9 else
 if v.whole∧v.evs.length=1 then (match v.evs with| []=>0|e::_=>if e.err≠0 then e.err else if 0<v.tups.length then 21 else 0) else E9 v
def Ee (v:Vo) (L:Int):List Int:=if Dd v L≠0 then [] else if v.whole∧v.evs.length=1 then [L] else Gd v
def ckE (v:Vo) (L:Int):Int:=if Dd v L=0∧0<(Ee v L).length∧tot (Ee v L)≠L then 20 else Dd v L
def ckL (v:Vo) (L:Int):List Int:=if ckE v L≠0 then [] else Ee v L
theorem Xf {v:Vo} {L:Int} (h:L<1∨15482880<L): []=Ee v L∧2=Dd v L:=by
 have e:Dd v L=2:=by rw [Dd,if_pos h]
 exact ⟨by rw [Ee,e,if_pos (by decide)],e.symm⟩
theorem Am0 {v:Vo} {L:Int} (h:¬L<1) (h':¬15482880<L) (h2:128<(v.evs.length:Int)): []=Ee v L∧9=Dd v L:=by
 have e:Dd v L=9:=by rw [Dd,if_neg (by omega),if_pos (by omega)]
 exact ⟨by rw [Ee,e,if_pos (by decide)],e.symm⟩
theorem Age {v:Vo} {L:Int} (h:¬L<1) (h':¬15482880<L) (h2:¬128<(v.evs.length:Int)) (hw:v.whole) (h1:(v.evs.length:Int)=1) {e:Ev} (he:v.evs[0]? =some e):
  Dd v L=(if e.err≠0 then e.err else if 0<v.tups.length then 21 else 0):=by
 rw [Dd,if_neg (by omega),if_neg (by omega),if_pos ⟨hw,by omega⟩]
 cases hv:v.evs with
 |nil=>rw [hv] at he;cases he
 |cons x l=>rw [hv] at he;cases he;rfl
theorem Xe {v:Vo} {L:Int} (h:¬L<1) (h':¬15482880<L) (h2:¬128<(v.evs.length:Int)) (hw:¬(v.whole∧(v.evs.length:Int)=1)):Gd v=Ee v L∧E9 v=Dd v L:=by
 have hw':¬(v.whole∧v.evs.length=1):=fun k=>hw ⟨k.1,by omega⟩
 have e:Dd v L=E9 v:=by rw [Dd,if_neg (by omega),if_neg (by omega),if_neg hw']
 refine ⟨?_,e.symm⟩
 rw [Ee,e,if_neg hw']
 split
 ·rename_i hn;rw [Gd,if_neg hn]
 ·rfl
theorem Uj {v:Vo} {L a:Int} (h:Dd v L=a) (ha:a≠0): []=Ee v L∧a=Dd v L:=⟨by rw [Ee,h,if_pos ha],h.symm⟩
theorem Aiw {v:Vo} {L:Int} (h:Dd v L=0) (hw:v.whole) (h1:(v.evs.length:Int)=1): [L]=Ee v L∧0=Dd v L:=⟨by rw [Ee,h,if_neg (by decide),if_pos ⟨hw,by omega⟩],h.symm⟩
theorem Agd (v:Vo) (L:Int) (hE:Evs v.evs):XC Tryz.prog 115 [.agg (Vo.c v), .v (.int .i64 L)] (fun r=>r= .tup [.sl 1 (B6 (Ee v L)),dI (Dd v L)]):=by
 refine Am Abq Tryz.func115 R R lb<|zr<|XL.step R (An 2 (l:= [.d (.sl 13 (v.evs.map Ev.c)), .d (.sl 4 (v.tups.map Tp.c))]) R R (by kernel_rfl))<|za R R<|za R R<|zn<|zs<|Ah<|zr<|zm R R<|zp (Av R R R)<|zm R R<|?_
 refine XL.dec 10 R (fun g10=> ?_) (fun g10=> ?_)
 refine zk 2 R<|zq R R R<|za R R<|zn<|Aw (by kernel_rfl) R<|zr<|za R R<|za R R<|zn<|zt<|?_
 exact Ay R (RV.nil (sz:=1) R R) (RV.tmp R R) (r2 (rSl (Xf (v:=v) (by omega)).1) (rI (Xf (v:=v) (by omega)).2))
 refine zm R R<|zp (Ba R R R)<|zq R R R<|za R R<|zn<|?_
 refine zd R (fun c7=> ?_) (fun c7=> ?_)
 refine zr<|za R R<|za R R<|zn<|zt<|?_
 exact Ay R (RV.nil (sz:=1) R R) (RV.tmp R R) (r2 (rSl (Xf (v:=v) (by omega)).1) (rI (Xf (v:=v) (by omega)).2))
 refine zr<|zp (Aa R R Bl)<|zp (Ab R R Cy R R)<|XL.len R R R Tryz.underlying79 fun hl17=>zp (Ba R R R)<|za R R<|zn<|?_
 refine zd R (fun c14=> ?_) (fun c14=> ?_)
 refine zr<|za R R<|za R R<|zn<|zt<|?_
 exact Ay R (RV.nil (sz:=1) R R) (RV.tmp R R) (r2 (rSl (Am0 g10 c7 c14).1) (rI (Am0 g10 c7 c14).2))
 refine zi<|zs<|zr<|zp (Ae (s':= .d (.agg (Vo.c v))) (Ac (Ad R R Au R lb)) (by kernel_rfl))<|XL.call1 R R (Akg _) R<|zm R R<|?_
 refine XL.dec 21 R (fun g21=> ?_) (fun g21=> ?_)
 refine zp (Aa R R Bl)<|zp (Ab R R Cy R R)<|XL.len R R R Tryz.underlying79 fun hl24=>zp (Bb R R R)<|zq R R R<|zn<|?_
 refine zd R (fun c26=> ?_) (fun c26=> ?_)
 refine zs<|zs<|?_
 obtain ⟨e,hxe⟩:∃e,v.evs[0]? =some e:=Ax (by omega)
 have he:=hE e (List.mem_of_getElem? hxe)
 have hle:=Age (L:=L) g10 c7 c14 g21 c26 hxe
 refine Ag (by kernel_rfl)<|zp (Aa R R Bl)<|zp (Ab R R Cy R R)<|zp (Ar (k:=0) R R R Gn (hxe))<|zp (Ae (s':= .d (.agg (Ev.c e))) (A8 R R Bm lb) (by kernel_rfl))<|XL.call1 R R (Qj _ (by assumption)) R<|za R R<|znr<|zm R R<|zp (A5 R R R)<|zn<|?_
 refine zd R (fun c33=> ?_) (fun c33=> ?_)
 refine zr<|zm R R<|za R R<|za R R<|zn<|zt<|?_
 exact Ay R (RV.nil (sz:=1) R R) (RV.tmp R R) (r2 (rSl (Uj (by rw [hle,if_pos c33]) c33).1) (rI (Uj (by rw [hle,if_pos c33]) c33).2))
 refine zi<|zs<|zr<|zp (Aa R R B0)<|zp (Ab R R B1 R R)<|XL.len R R R Tryz.underlying80 fun hl37=>zp (Ba R R R)<|zn<|?_
 refine zd R (fun c38=> ?_) (fun c38=> ?_)
 refine zr<|za R R<|za R R<|zn<|zt<|?_
 exact Ay R (RV.nil (sz:=1) R R) (RV.tmp R R) (r2 (rSl (Uj (a:=21) (by rw [hle,if_neg c33,if_pos (by omega)]) (by decide)).1) (rI (Uj (a:=21) (by rw [hle,if_neg c33,if_pos (by omega)]) (by decide)).2))
 refine zi<|zr<|zm R R<|XL.step R (Bj 40 R Tryz.underlying45 Ep Hc R R (by omega) (by omega))<|zp (As R (by conv=>lhs;whnf))<|?_
 refine za R R<|zn<|zt<|B5 (i:=40) R<|?_
 exact Ay R (RV.tmp R R) (RV.tmp R R) (r2 (rSl (l:= [L]) (g:=iv) (Aiw (by rw [hle,if_neg c33,if_neg (by omega)]) g21 c26).1) (rI (Aiw (by rw [hle,if_neg c33,if_neg (by omega)]) g21 c26).2))
 refine zi<|zr<|zp (Ae (s':= .d (.agg (Vo.c v))) (Ac (Ad R R Au R lb)) (by kernel_rfl))<|XL.call1 R R (Y0 _ (by assumption) (by omega)) R<|zp (Ap R R R)<|zp (Ap R R R)<|za R R<|za R R<|zn<|zt<|?_
 exact Ay R (RV.tmp R R) (RV.tmp R R) (r2 (rSl (Xe g10 c7 c14 (fun h=>c26 h.2)).1) (rI (Xe g10 c7 c14 (fun h=>c26 h.2)).2))
 refine zk 4 R<|zq R R R<|zn<|A7 (by kernel_rfl) R<|zi<|zr<|zp (Ae (s':= .d (.agg (Vo.c v))) (Ac (Ad R R Au R lb)) (by kernel_rfl))<|XL.call1 R R (Y0 _ (by assumption) (by omega)) R<|zp (Ap R R R)<|zp (Ap R R R)<|za R R<|za R R<|zn<|zt<|?_
 exact Ay R (RV.tmp R R) (RV.tmp R R) (r2 (rSl (Xe g10 c7 c14 (fun h=>g21 h.1)).1) (rI (Xe g10 c7 c14 (fun h=>g21 h.1)).2))
end Go.Proofs.YtaafemnkamfgnaaGreat
namespace Go.Proofs.YtaafemnkamfgnaaGreat
open Go.RowKit
theorem Aof {l:List Tp} {n:Int} (hT:Tups l n) (ws:List Int):∀i x,x∈Cs l i ws→0≤x∧x≤253671505920:=by
 induction ws with
 |nil=>intro i x h;cases h
 |cons w r ih=>
  intro i x h
  rw [Cs] at h
  rcases List.mem_cons.1 h with e|e
  ·rw [e];exact X7 hT.ok (hT.hits i)
  ·exact ih _ _ e
theorem Af5 (l:List Tp) (ws:List Int):Nums (G1 l ws):=by
 unfold G1
 split
 ·rename_i h
  have hT:=M4 (show ¬C0 l ws≠0 by omega)
  have hb:=hT.bd
  exact ⟨by rw [Ij];omega,Aof hT ws 0⟩
 ·exact ⟨by simp,fun x h=>by cases h⟩
theorem Sd:Nums []:=⟨by simp,fun x h=>by cases h⟩
theorem Aih (v:Vo):Nums (Gd v):=by
 unfold Gd
 split
 ·exact Af5 _ _
 ·exact Sd
theorem V7 (v:Vo) (L:Int):Nums (Ee v L):=by
 unfold Ee
 split
 ·exact Sd
 ·rename_i h
  split
  ·refine ⟨by simp,fun x hx=> ?_⟩
   rw [List.mem_singleton.1 hx]
   unfold Dd at h
   split at h
   ·omega
   ·omega
  ·exact Aih v
theorem Hz (v:Vo) (L:Int):Nums (ckL v L):=by
 unfold ckL
 split
 ·exact Sd
 ·exact V7 v L
theorem Arh {v:Vo} {L:Int} (h0:Dd v L=0) (h1:0<((Ee v L).length:Int)) (h2:tot (Ee v L)≠L): []=ckL v L∧20=ckE v L:=by
 have e:ckE v L=20:=by rw [ckE,if_pos ⟨h0,by omega,h2⟩]
 exact ⟨by rw [ckL,e,if_pos (by decide)],e.symm⟩
theorem Agz {v:Vo} {L:Int} (h0:Dd v L=0) (h:¬(0<((Ee v L).length:Int)∧tot (Ee v L)≠L)):Ee v L=ckL v L∧0=ckE v L:=by
 have e:ckE v L=0:=by rw [ckE,if_neg (fun k=>h ⟨by omega,k.2.2⟩),h0]
 exact ⟨by rw [ckL,e,if_neg (by decide)],e.symm⟩
theorem Arg {v:Vo} {L:Int} (h:Dd v L≠0): []=ckL v L∧Dd v L=ckE v L:=by
 have e:ckE v L=Dd v L:=by rw [ckE,if_neg (fun k=>h k.1)]
 exact ⟨by rw [ckL,e,if_pos h],e.symm⟩
theorem J4 (v:Vo) (L:Int) (hE:Evs v.evs):XC Tryz.prog 95 [.agg (Vo.c v), .v (.int .i64 L)] (fun r=>r= .tup [.sl 1 (B6 (ckL v L)),dI (ckE v L)]):=by
 have hN:=V7 v L
 refine Am Acr Tryz.func95 R R lb<|zr<|XL.step R (An 2 (l:= [.d (.sl 13 (v.evs.map Ev.c)), .d (.sl 4 (v.tups.map Tp.c))]) R R (by kernel_rfl))<|za R R<|za R R<|znr<|zp (Ae (s':= .d (.agg (Vo.c v))) (Ac (Ad R R Au R lb)) (by kernel_rfl))<|zm R R<|XL.call1 R R (Agd _ _ (by assumption)) R<|zm R R<|zp (Ap R R R)<|zp (Ap R R R)<|za R R<|za R R<|?_
 refine zn<|zs<|zr<|zm R R<|zp (Bb R R R)<|zm R R<|?_
 refine XL.dec 16 R (fun g16=> ?_) (fun g16=> ?_)
 refine zm R R<|XL.len R R R Tryz.underlying45 fun hl18=>zp (Ba R R R)<|zq R R R<|zm R R<|?_
 refine XL.dec 21 R (fun g21=> ?_) (fun g21=> ?_)
 refine zm R R<|XL.call1 R R (Akk _ (by assumption)) R<|zm R R<|zp (A5 R R R)<|zq R R R<|zn<|?_
 refine zd R (fun c26=> ?_) (fun c26=> ?_)
 refine Ag (by kernel_rfl)<|za R R<|zn<|zs<|zr<|zm R R<|zp (A5 R R R)<|zn<|?_
 refine zd R (fun c28=> ?_) (fun c28=> ?_)
 refine zr<|zm R R<|za R R<|za R R<|zn<|zt<|?_
 exact Ay R (RV.nil (sz:=1) R R) (RV.tmp R R) (r2 (rSl (Arh g16 g21 c26).1) (rI (Arh g16 g21 c26).2))
 refine zi<|zr<|zm R R<|za R R<|za R R<|zn<|zt<|?_
 exact Ay R (RV.tmp R R) (RV.tmp R R) (by exfalso;omega)
 refine zi<|zs<|zr<|zm R R<|zp (A5 R R R)<|zn<|?_
 refine zd R (fun c28=> ?_) (fun c28=> ?_)
 refine zr<|zm R R<|za R R<|za R R<|zn<|zt<|?_
 exact Ay R (RV.nil (sz:=1) R R) (RV.tmp R R) (by exfalso;omega)
 refine zi<|zr<|zm R R<|za R R<|za R R<|zn<|zt<|?_
 exact Ay R (RV.tmp R R) (RV.tmp R R) (r2 (rSl (Agz g16 (fun h=>c26 h.2)).1) (rI (Agz g16 (fun h=>c26 h.2)).2))
 refine zk 4 R<|zq R R R<|zn<|A7 (by kernel_rfl) R<|zi<|zs<|zr<|zm R R<|zp (A5 R R R)<|zn<|?_
 refine zd R (fun c28=> ?_) (fun c28=> ?_)
 refine zr<|zm R R<|za R R<|za R R<|zn<|zt<|?_
 exact Ay R (RV.nil (sz:=1) R R) (RV.tmp R R) (by exfalso;omega)
 refine zi<|zr<|zm R R<|za R R<|za R R<|zn<|zt<|?_
 exact Ay R (RV.tmp R R) (RV.tmp R R) (r2 (rSl (Agz g16 (fun h=>g21 h.1)).1) (rI (Agz g16 (fun h=>g21 h.1)).2))
 refine zk 3 R<|zq R R R<|zm R R<|zk 4 R<|zq R R R<|zn<|A7 (by kernel_rfl) R<|zi<|zs<|zr<|zm R R<|zp (A5 R R R)<|zn<|?_
 refine zd R (fun c28=> ?_) (fun c28=> ?_)
 refine zr<|zm R R<|za R R<|za R R<|zn<|zt<|?_
 exact Ay R (RV.nil (sz:=1) R R) (RV.tmp R R) (r2 (rSl (Arg g16).1) (rI (Arg g16).2))
 refine zi<|zr<|zm R R<|za R R<|za R R<|zn<|zt<|?_
 exact Ay R (RV.tmp R R) (RV.tmp R R) (by exfalso;omega)
theorem Ag6 (v:Vo) (L:Int) (hE:Evs v.evs):XC Tryz.prog 60 [.agg (Vo.c v), .v (.int .i64 L)] (fun r=>r= .tup [.sl 1 (B6 (ckL v L)),dI (ckE v L)]):=by
 refine Am Ac9 Tryz.func60 R R lb<|zr<|XL.step R (An 2 (l:= [.d (.sl 13 (v.evs.map Ev.c)), .d (.sl 4 (v.tups.map Tp.c))]) R R (by kernel_rfl))<|za R R<|za R R<|znr<|zp (Ae (s':= .d (.agg (Vo.c v))) (Ac (Ad R R Au R lb)) (by kernel_rfl))<|zm R R<|XL.call1 R R (J4 _ _ (by assumption)) R<|zp (Ap R R R)<|zp (Ap R R R)<|za R R<|za R R<|zn<|?_
 refine zt<|?_
 exact Ay R (RV.tmp R R) (RV.tmp R R) (R)
theorem Mz (v:Vo) (L:Int) (hE:Evs v.evs):XC Tryz.prog 71 [.agg (Vo.c v), .v (.int .i64 L)] (fun r=>r=dI (ckE v L)):=by
 refine Am Acz Tryz.func71 R R lb<|zr<|XL.step R (An 2 (l:= [.d (.sl 13 (v.evs.map Ev.c)), .d (.sl 4 (v.tups.map Tp.c))]) R R (by kernel_rfl))<|za R R<|znr<|zp (Ae (s':= .d (.agg (Vo.c v))) (Ac (Ad R R Au R lb)) (by kernel_rfl))<|zm R R<|XL.call1 R R (J4 _ _ (by assumption)) R<|zm R R<|zp (Ap R R R)<|zp (Ap R R R)<|za R R<|za R R<|znr<|?_
 exact zm R R<|za R R<|zn<|zt<|z1 R R (R)
theorem Aqf {v:Vo} {L:Int} (h:ckE v L≠0): []=A6 (ckL v L):=by rw [ckL,if_pos h];rfl
theorem Qw (v:Vo) (L:Int) (hE:Evs v.evs):XC Tryz.prog 57 [.agg (Vo.c v), .v (.int .i64 L)] (fun r=>r= .tup [.sl 1 (B6 (A6 (ckL v L))),dI (ckE v L)]):=by
 have hN:=Hz v L
 refine Am Adc Tryz.func57 R R lb<|zr<|XL.step R (An 2 (l:= [.d (.sl 13 (v.evs.map Ev.c)), .d (.sl 4 (v.tups.map Tp.c))]) R R (by kernel_rfl))<|za R R<|za R R<|znr<|zp (Ae (s':= .d (.agg (Vo.c v))) (Ac (Ad R R Au R lb)) (by kernel_rfl))<|zm R R<|XL.call1 R R (J4 _ _ (by assumption)) R<|zm R R<|zp (Ap R R R)<|zp (Ap R R R)<|za R R<|za R R<|?_
 refine zn<|zs<|zr<|zm R R<|zp (A5 R R R)<|zn<|?_
 refine zd R (fun c15=> ?_) (fun c15=> ?_)
 refine zr<|zm R R<|za R R<|za R R<|zn<|zt<|?_
 exact Ay R (RV.nil (sz:=1) R R) (RV.tmp R R) (r2 (rSl (Aqf c15)) R)
 refine zi<|zr<|zm R R<|XL.call1 R R (V4 _ (by assumption)) R<|za R R<|za R R<|zn<|zt<|?_
 exact Ay R (RV.tmp R R) (RV.tmp R R) (r2 R (rI (by omega)))
def atS (l:List Int) (t:Int):Nat→Int × Int
 |0=>(0,0)
 |k+1=>match l[k]? with
  |some x=>if tot (l.take k)≤t∧0<x then (k,tot (l.take k)) else atS l t k
  |none=>atS l t k
theorem Abx {l:List Int} {t x:Int} {k:Nat} (h:l[k]? =some x) (h1:tot (l.take k)≤t) (h2:0<x):atS l t (k+1)=((k:Int),tot (l.take k)):=by simp only [atS,h];rw [if_pos ⟨h1,h2⟩]
theorem N9 {l:List Int} {t x:Int} {k:Nat} (h:l[k]? =some x) (h1:¬(tot (l.take k)≤t∧0<x)):atS l t (k+1)=atS l t k:=by simp only [atS,h];rw [if_neg h1]
def atE (v:Vo) (L t:Int):Int:=if ckE v L≠0 then ckE v L else if (ckL v L).length=0 then 10 else if t<0∨L≤t then 2 else 0
def atV (v:Vo) (L t:Int):Int × Int:=if atE v L t≠0 then (0,0) else atS (ckL v L) t (ckL v L).length
theorem Hy {l:List Int} {k:Nat} {x:Int} (h:(A6 l)[k]? =some x):x=tot (l.take k):=by
 have hk:=(List.getElem?_eq_some_iff.1 h).1
 rw [A6,List.length_map,List.length_range] at hk
 rw [A6,List.getElem?_map,List.getElem?_range hk] at h
 cases h;rfl
theorem G7 (l:List Int):(A6 l).length=l.length:=by rw [A6,List.length_map,List.length_range]
theorem Lh {v:Vo} {L t a:Int} (h:atE v L t=a) (ha:a≠0):0=(atV v L t).1∧0=(atV v L t).2∧a=atE v L t:=by
 have e:atV v L t=(0,0):=by rw [atV,h,if_pos ha]
 rw [e];exact ⟨rfl,rfl,h.symm⟩
theorem Ag3 {v:Vo} {L t:Int} (h:ckE v L≠0):atE v L t=ckE v L:=by rw [atE,if_pos h]
theorem Ag2 {v:Vo} {L t:Int} (h:¬ckE v L≠0) (h2:((ckL v L).length:Int)=0):atE v L t=10:=by rw [atE,if_neg h,if_pos (by omega)]
theorem Vg {v:Vo} {L t:Int} (h:¬ckE v L≠0) (h2:¬((ckL v L).length:Int)=0) (h3:t<0∨L≤t):atE v L t=2:=by rw [atE,if_neg h,if_neg (by omega),if_pos h3]
theorem Amn {v:Vo} {L t:Int} (h:¬ckE v L≠0) (h2:¬((ckL v L).length:Int)=0) (h3:¬(t<0∨L≤t)):atS (ckL v L) t (ckL v L).length=atV v L t∧0=atE v L t:=by
 have e:atE v L t=0:=by rw [atE,if_neg h,if_neg (by omega),if_neg h3]
 exact ⟨by rw [atV,e,if_neg (by decide)],e.symm⟩
theorem Asp (v:Vo) (L t:Int) (hE:Evs v.evs):XC Tryz.prog 61 [.agg (Vo.c v), .v (.int .i64 L), .v (.int .i64 t)] (fun r=>r= .tup [dI (atV v L t).1,dI (atV v L t).2,dI (atE v L t)]):=by
 have hN:=Hz v L
 have hol:=G7 (ckL v L)
 refine Am Ac8 Tryz.func61 R R lb<|zr<|XL.step R (An 3 (l:= [.d (.sl 13 (v.evs.map Ev.c)), .d (.sl 4 (v.tups.map Tp.c))]) R R (by kernel_rfl))<|za R R<|za R R<|za R R<|znr<|zp (Ae (s':= .d (.agg (Vo.c v))) (Ac (Ad R R Au R lb)) (by kernel_rfl))<|zm R R<|XL.call1 R R (J4 _ _ (by assumption)) R<|zm R R<|zp (Ap R R R)<|zp (Ap R R R)<|za R R<|?_
 refine za R R<|zn<|zs<|Ah<|zr<|zm R R<|zp (A5 R R R)<|za R R<|zn<|?_
 refine zd R (fun c18=> ?_) (fun c18=> ?_)
 refine zr<|zm R R<|za R R<|za R R<|za R R<|zn<|zt<|?_
 exact U3 R (RV.tmp R R) (RV.tmp R R) (RV.tmp R R) (r3 (rI (Lh (t:=t) (Ag3 c18) c18).1) (rI (Lh (t:=t) (Ag3 c18) c18).2.1) (rI (Lh (t:=t) (Ag3 c18) c18).2.2))
 refine zr<|zm R R<|XL.len R R R Tryz.underlying45 fun hl24=>zp (Bb R R R)<|za R R<|zn<|?_
 refine zd R (fun c22=> ?_) (fun c22=> ?_)
 refine zr<|za R R<|za R R<|za R R<|zn<|zt<|?_
 exact U3 R (RV.tmp R R) (RV.tmp R R) (RV.tmp R R) (r3 (rI (Lh (t:=t) (Ag2 c18 c22) (by decide)).1) (rI (Lh (t:=t) (Ag2 c18 c22) (by decide)).2.1) (rI (Lh (t:=t) (Ag2 c18 c22) (by decide)).2.2))
 refine zr<|zm R R<|zp (Av R R R)<|zm R R<|?_
 refine XL.dec 29 R (fun g29=> ?_) (fun g29=> ?_)
 refine zk 3 R<|zq R R R<|za R R<|zn<|Aw (by kernel_rfl) R<|zr<|za R R<|za R R<|za R R<|zn<|zt<|?_
 exact U3 R (RV.tmp R R) (RV.tmp R R) (RV.tmp R R) (r3 (rI (Lh (Vg c18 c22 (by omega)) (by decide)).1) (rI (Lh (Vg c18 c22 (by omega)) (by decide)).2.1) (rI (Lh (Vg c18 c22 (by omega)) (by decide)).2.2))
 refine zm R R<|zm R R<|zp (Fx R R R)<|zq R R R<|za R R<|zn<|?_
 refine zd R (fun c26=> ?_) (fun c26=> ?_)
 refine zr<|za R R<|za R R<|za R R<|zn<|zt<|?_
 exact U3 R (RV.tmp R R) (RV.tmp R R) (RV.tmp R R) (r3 (rI (Lh (Vg c18 c22 (by omega)) (by decide)).1) (rI (Lh (Vg c18 c22 (by omega)) (by decide)).2.1) (rI (Lh (Vg c18 c22 (by omega)) (by decide)).2.2))
 refine zi<|zs<|zr<|zm R R<|XL.call1 R R (V4 _ (by assumption)) R<|XL.len R R R Tryz.underlying45 fun hl36=>zm R R<|zn<|Ah<|?_
 refine Az (α:=Nat) (fun k=>k≤(A6 (ckL v L)).length) (fun k=>mkF [(2, .d (dI t)),(6, .d (dI (atS (ckL v L) t k).1)),(7, .d (dI (atS (ckL v L) t k).2)),(8, .d (dI (ckE v L))),(9, .d (.sl 1 (B6 (ckL v L)))),(35, .d (.sl 1 (B6 (A6 (ckL v L))))),(36, .d (dI (A6 (ckL v L)).length)),(37, .d (dI k))]) (fun k=>mkH []) (fun k=>(A6 (ckL v L)).length - k) (0) (Nat.zero_le _) ?_ ?_ ?_
 exact fz ⟨sr,sr,sr,sr,sr,sr,sr,sr,trivial⟩
 exact HSub.nil
 intro k hk1
 refine zr<|zp (Av R R R)<|zn<|zs<|?_
 refine zd R (fun c38=> ?_) (fun c38=> ?_)
 have hk1a:k<(A6 (ckL v L)).length:=by omega
 obtain ⟨x1,hx1⟩:=Ax hk1a
 have hxe:=Hy hx1
 obtain ⟨y,hy⟩:∃y,(ckL v L)[k]? =some y:=Ax (by omega)
 refine zi<|zs<|Ah<|zr<|zm R R<|zp (Ar R R R C7 hx1)<|zp (A4 R R Ai)<|za R R<|za R R<|znr<|zm R R<|zm R R<|zp (Nd R R R)<|zm R R<|?_
 refine XL.dec 45 R (fun g45=> ?_) (fun g45=> ?_)
 refine zm R R<|zm R R<|zp (Ar R R R C7 (hy))<|zp (A4 R R Ai)<|zp (Ba R R R)<|zq R R R<|zn<|?_
 refine zd R (fun c51=> ?_) (fun c51=> ?_)
 refine Ag (by kernel_rfl)<|zm R R<|zm R R<|za R R<|za R R<|zn<|Ag (by kernel_rfl)<|zp (Ak R R R (by omega) (by omega))<|zm R R<|zn<|?_
 exact Al (k+1) (by omega) (by omega) (fz ⟨sr, .same (sI (by rw [Abx hy (by rw [←Hy hx1];exact g45) c51])), .same (sI (by rw [Abx hy (by rw [←Hy hx1];exact g45) c51];exact Hy hx1)),sr,sr,sr,sr,sr,trivial⟩) (HSub.nil)
 refine zi<|Ag (by kernel_rfl)<|zp (Ak R R R (by omega) (by omega))<|zm R R<|zn<|?_
 exact Al (k+1) (by omega) (by omega) (fz ⟨sr, .same (sI (by rw [N9 hy (fun h=>c51 h.2)])), .same (sI (by rw [N9 hy (fun h=>c51 h.2)])),sr,sr,sr,sr,sr,trivial⟩) (HSub.nil)
 refine zk 5 R<|zq R R R<|zn<|A7 (by kernel_rfl) R<|zi<|Ag (by kernel_rfl)<|zp (Ak R R R (by omega) (by omega))<|zm R R<|zn<|?_
 exact Al (k+1) (by omega) (by omega) (fz ⟨sr, .same (sI (by rw [N9 hy (fun h=>g45 (by rw [Hy hx1];exact h.1))])), .same (sI (by rw [N9 hy (fun h=>g45 (by rw [Hy hx1];exact h.1))])),sr,sr,sr,sr,sr,trivial⟩) (HSub.nil)
 have hk1b:k=(A6 (ckL v L)).length:=by omega
 have hke:k=(ckL v L).length:=by omega
 refine At<|zr<|zm R R<|zm R R<|za R R<|za R R<|za R R<|zn<|zt<|?_
 exact U3 R (RV.tmp R R) (RV.tmp R R) (RV.tmp R R) (r3 (rI (by rw [hke,(Amn c18 c22 (by omega)).1])) (rI (by rw [hke,(Amn c18 c22 (by omega)).1])) (rI (Amn c18 c22 (by omega)).2))
end Go.Proofs.YtaafemnkamfgnaaGreat
namespace Go.Proofs.YtaafemnkamfgnaaGreat
open Go.RowKit
set_option maxRecDepth 4000
set_option maxHeartbeats 4000000 in
theorem Aev (d:Nat) (w:World) (a0 a1 a2 a3 a4 a5 b0 b1 b2 b3 b4 b5:Int):(Op.equalIn (d+2) 24 (.agg #[.int .i64 a0, .int .i64 a1, .int .i64 a2, .int .i64 a3, .int .i64 a4, .int .i64 a5]) (.agg #[.int .i64 b0, .int .i64 b1, .int .i64 b2, .int .i64 b3, .int .i64 b4, .int .i64 b5])).run Tryz.prog w=
  .ok (decide (a0=b0∧a1=b1∧a2=b2∧a3=b3∧a4=b4∧a5=b5)) w:=by
 rw [show d+2=(d+1)+1 from rfl]
 have hp:∀(cs:Array Value) (k:Nat) (v:Value),cs[k]? =some v→(part 3 cs k).run Tryz.prog w= .ok v w:=fun cs k v h=>Cz Ai w h
 have he:∀a b:Int,(Op.equalIn (d+1) 3 (.int .i64 a) (.int .i64 b)).run Tryz.prog w= .ok (decide (a=b)) w:=fun a b=>En d 3 Tryz.underlying3 a b
 have ha0:=hp (#[.int .i64 a0, .int .i64 a1, .int .i64 a2, .int .i64 a3, .int .i64 a4, .int .i64 a5]) ((0)*1) (.int .i64 a0) rfl
 have hb0:=hp (#[.int .i64 b0, .int .i64 b1, .int .i64 b2, .int .i64 b3, .int .i64 b4, .int .i64 b5]) ((0)*1) (.int .i64 b0) rfl
 have ha1:=hp (#[.int .i64 a0, .int .i64 a1, .int .i64 a2, .int .i64 a3, .int .i64 a4, .int .i64 a5]) ((0+1)*1) (.int .i64 a1) rfl
 have hb1:=hp (#[.int .i64 b0, .int .i64 b1, .int .i64 b2, .int .i64 b3, .int .i64 b4, .int .i64 b5]) ((0+1)*1) (.int .i64 b1) rfl
 have ha2:=hp (#[.int .i64 a0, .int .i64 a1, .int .i64 a2, .int .i64 a3, .int .i64 a4, .int .i64 a5]) ((0+1+1)*1) (.int .i64 a2) rfl
 have hb2:=hp (#[.int .i64 b0, .int .i64 b1, .int .i64 b2, .int .i64 b3, .int .i64 b4, .int .i64 b5]) ((0+1+1)*1) (.int .i64 b2) rfl
 have ha3:=hp (#[.int .i64 a0, .int .i64 a1, .int .i64 a2, .int .i64 a3, .int .i64 a4, .int .i64 a5]) ((0+1+1+1)*1) (.int .i64 a3) rfl
 have hb3:=hp (#[.int .i64 b0, .int .i64 b1, .int .i64 b2, .int .i64 b3, .int .i64 b4, .int .i64 b5]) ((0+1+1+1)*1) (.int .i64 b3) rfl
 have ha4:=hp (#[.int .i64 a0, .int .i64 a1, .int .i64 a2, .int .i64 a3, .int .i64 a4, .int .i64 a5]) ((0+1+1+1+1)*1) (.int .i64 a4) rfl
 have hb4:=hp (#[.int .i64 b0, .int .i64 b1, .int .i64 b2, .int .i64 b3, .int .i64 b4, .int .i64 b5]) ((0+1+1+1+1)*1) (.int .i64 b4) rfl
 have ha5:=hp (#[.int .i64 a0, .int .i64 a1, .int .i64 a2, .int .i64 a3, .int .i64 a4, .int .i64 a5]) ((0+1+1+1+1+1)*1) (.int .i64 a5) rfl
 have hb5:=hp (#[.int .i64 b0, .int .i64 b1, .int .i64 b2, .int .i64 b3, .int .i64 b4, .int .i64 b5]) ((0+1+1+1+1+1)*1) (.int .i64 b5) rfl
 clear hp
 generalize hd:d+1=d1 at*
 generalize hA:(#[.int .i64 a0, .int .i64 a1, .int .i64 a2, .int .i64 a3, .int .i64 a4, .int .i64 a5]:Array Value)=A at*
 generalize hB:(#[.int .i64 b0, .int .i64 b1, .int .i64 b2, .int .i64 b3, .int .i64 b4, .int .i64 b5]:Array Value)=B at*
 unfold Op.equalIn
 simp only [Sem.run_bind,run_underlying Tryz.underlying24,Result.andThen_ok,sizeB.run Ep]
 simp only [Std.Legacy.Range.forIn_eq_forIn_range',Std.Legacy.Range.size,List.range',List.forIn_cons,List.forIn_nil]
 by_cases e0:a0=b0
 rotate_left
 ·simp_all
 by_cases e1:a1=b1
 rotate_left
 ·simp_all
 by_cases e2:a2=b2
 rotate_left
 ·simp_all
 by_cases e3:a3=b3
 rotate_left
 ·simp_all
 by_cases e4:a4=b4
 rotate_left
 ·simp_all
 by_cases e5:a5=b5
 rotate_left
 ·simp_all
 ·simp_all
theorem Alb {t':TypeId} {o:Oper} {e:Operand→S} {h:Xh} {x y:Operand} {a0:Int} {a1:Int} {a2:Int} {a3:Int} {a4:Int} {a5:Int} {b0:Int} {b1:Int} {b2:Int} {b3:Int} {b4:Int} {b5:Int} (ho:o.op= .binOp .eql 24 x y t') (hx:e x= .d (.agg [.v (.int .i64 a0), .v (.int .i64 a1), .v (.int .i64 a2), .v (.int .i64 a3), .v (.int .i64 a4), .v (.int .i64 a5)])) (hy:e y= .d (.agg [.v (.int .i64 b0), .v (.int .i64 b1), .v (.int .i64 b2), .v (.int .i64 b3), .v (.int .i64 b4), .v (.int .i64 b5)])):Bc Tryz.prog o e h (.d (.v (.bool (decide (a0=b0∧a1=b1∧a2=b2∧a3=b3∧a4=b4∧a5=b5))))):=by
 refine Ga ho hx hy rfl rfl (by kernel_rfl) fun w=> ?_
 refine (run_eql_struct w 24 #[.int .i64 a0, .int .i64 a1, .int .i64 a2, .int .i64 a3, .int .i64 a4, .int .i64 a5] #[.int .i64 b0, .int .i64 b1, .int .i64 b2, .int .i64 b3, .int .i64 b4, .int .i64 b5]).trans ?_
 have hq:=Aev 9998 w a0 a1 a2 a3 a4 a5 b0 b1 b2 b3 b4 b5
 simp only [Nat.reduceAdd] at hq
 rw [hq]
 simp only [Result.andThen_ok]
theorem Ak6 {t':TypeId} {o:Oper} {e:Operand→S} {h:Xh} {x y:Operand} {a0:Int} {a1:Int} {a2:Int} {a3:Int} {a4:Int} {a5:Int} {b0:Int} {b1:Int} {b2:Int} {b3:Int} {b4:Int} {b5:Int} (ho:o.op= .binOp .neq 24 x y t') (hx:e x= .d (.agg [.v (.int .i64 a0), .v (.int .i64 a1), .v (.int .i64 a2), .v (.int .i64 a3), .v (.int .i64 a4), .v (.int .i64 a5)])) (hy:e y= .d (.agg [.v (.int .i64 b0), .v (.int .i64 b1), .v (.int .i64 b2), .v (.int .i64 b3), .v (.int .i64 b4), .v (.int .i64 b5)])):Bc Tryz.prog o e h (.d (.v (.bool (decide (¬(a0=b0∧a1=b1∧a2=b2∧a3=b3∧a4=b4∧a5=b5)))))):=by
 refine Ga ho hx hy rfl rfl (by kernel_rfl) fun w=> ?_
 refine (run_neq_struct w 24 #[.int .i64 a0, .int .i64 a1, .int .i64 a2, .int .i64 a3, .int .i64 a4, .int .i64 a5] #[.int .i64 b0, .int .i64 b1, .int .i64 b2, .int .i64 b3, .int .i64 b4, .int .i64 b5]).trans ?_
 have hq:=Aev 9998 w a0 a1 a2 a3 a4 a5 b0 b1 b2 b3 b4 b5
 simp only [Nat.reduceAdd] at hq
 rw [hq]
 simp only [Result.andThen_ok,decide_not]
end Go.Proofs.YtaafemnkamfgnaaGreat
namespace Go.Proofs.YtaafemnkamfgnaaGreat
open Go.RowKit
theorem Aqw {m:Me} {k:Nat} {g:Int} (h:m.gs[k]? =some g): [dI m.g0,dI m.g1,dI m.g2,dI m.g3,dI m.g4,dI m.g5][k]? =some (dI g):=by
 have:(m.gs.map dI)[k]? =some (dI g):=by rw [List.getElem?_map,h];rfl
 exact this
def Me.flat (m:Me):Prop:=m.g0=0∧m.g1=0∧m.g2=0∧m.g3=0∧m.g4=0∧m.g5=0
instance (m:Me):Decidable m.flat:=by unfold Me.flat;exact inferInstance
def gGo (k:Nat) (s n:Int):List Int→Option (Int × Int)
 | []=>some (s,n)
 |g::r=>if g<0∨64<g∨(0<g∧(k:Int)≠n) then none else if 0<g then gGo (k+1) (s+g) (n+1) r else gGo (k+1) s n r
def gOk (c:Int) (o:Option (Int × Int)):Prop:=match o with|some p=>p.1=c∧2≤p.2|none=>False
instance (c:Int) (o:Option (Int × Int)):Decidable (gOk c o):=by unfold gOk;cases o<;>exact inferInstance
def Me.grouped (m:Me):Prop:=m.flat∨gOk m.count (gGo 0 0 0 m.gs)
instance (m:Me):Decidable m.grouped:=by unfold Me.grouped;exact inferInstance
theorem S5 {m:Me} {k:Nat} {g s n:Int} (h:m.gs[k]? =some g) (hb:g<0∨64<g∨(0<g∧(k:Int)≠n)):gGo k s n (m.gs.drop k)=none:=by rw [Bq h,gGo,if_pos hb]
theorem Ao0 {m:Me} {k:Nat} {g s n:Int} (h:m.gs[k]? =some g) (hb:¬(g<0∨64<g∨(0<g∧(k:Int)≠n))) (hg:0<g):gGo k s n (m.gs.drop k)=gGo (k+1) (s+g) (n+1) (m.gs.drop (k+1)):=by rw [Bq h,gGo,if_neg hb,if_pos hg]
theorem Aqy {m:Me} {k:Nat} {g s n:Int} (h:m.gs[k]? =some g) (hb:¬(g<0∨64<g∨(0<g∧(k:Int)≠n))) (hg:¬0<g):gGo k s n (m.gs.drop k)=gGo (k+1) s n (m.gs.drop (k+1)):=by rw [Bq h,gGo,if_neg hb,if_neg hg]
theorem Aoy {m:Me} (h:m.grouped):true=decide m.grouped:=by rw [decide_eq_true h]
theorem Y3 {m:Me} (h1:¬m.flat) (h:gGo 0 0 0 m.gs=none):false=decide m.grouped:=by rw [decide_eq_false];exact fun k=>k.elim h1 (by rw [h];exact fun k=>k)
theorem Ajc {m:Me} (h1:¬m.flat) {s n:Int} (h:gGo 0 0 0 m.gs=some (s,n)):m.grouped↔s=m.count∧2≤n:=by
 unfold Me.grouped
 rw [h]
 exact ⟨fun k=>k.elim (fun k=>absurd k h1) fun k=>k,fun k=> .inr k⟩
theorem Agj (m:Me):XC Tryz.prog 92 [.agg (Me.c m)] (fun r=>r=dB (decide m.grouped)):=by
 refine Am Acv Tryz.func92 R R lb<|zr<|XL.step R (An 1 (l:= [.d (dI m.count), .d (dI m.unit), .d (dI m.g0), .d (dI m.g1), .d (dI m.g2), .d (dI m.g3), .d (dI m.g4), .d (dI m.g5)]) R R (by kernel_rfl))<|za R R<|zn<|zs<|zr<|zp (Aa R R O2)<|?_
 refine zp (Ae (s':= .d (.agg [dI m.g0,dI m.g1,dI m.g2,dI m.g3,dI m.g4,dI m.g5])) (Ac (Ad R R Abz R lb)) (by kernel_rfl))<|zp (Ae (s':= .d (.agg [dI 0,dI 0,dI 0,dI 0,dI 0,dI 0])) (Ac (Oo R Tryz.underlying24 Ep Adv R)) (by kernel_rfl))<|zp (Alb R R R)<|zn<|?_
 refine zd R (fun c10=> ?_) (fun c10=> ?_)
 exact zr<|za R R<|zn<|zt<|z1 R R (rB (Aoy (.inl c10)))
 refine zi<|zr<|za R R<|za R R<|zn<|zs<|zr<|zp (Aa R R O2)<|zp (Ae (s':= .d (.agg [dI m.g0,dI m.g1,dI m.g2,dI m.g3,dI m.g4,dI m.g5])) (Ac (Ad R R Abz R lb)) (by kernel_rfl))<|zm R R<|zn<|Ah<|?_
 refine Az (α:=Nat × Int × Int) (fun p=>p.1≤6∧gGo p.1 p.2.1 p.2.2 (m.gs.drop p.1)=gGo 0 0 0 m.gs∧0≤p.2.1∧p.2.1≤64*p.1∧0≤p.2.2∧p.2.2≤p.1) (fun p=>mkF [(1, .ptr 1 0 0),(3, .d (dI p.2.1)),(4, .d (dI p.2.2)),(12, .d (.agg [dI m.g0,dI m.g1,dI m.g2,dI m.g3,dI m.g4,dI m.g5])),(13, .d (dI p.1))]) (fun p=>mkH [(1, .box ((Me.c m).map S.d))]) (fun p=>6 - p.1) ((0,0,0)) (⟨Nat.zero_le _,R,by simp,by simp,by simp,by simp⟩) ?_ ?_ ?_
 exact fz ⟨sr,sr,sr,sr,sr,trivial⟩
 exact gz ⟨R,trivial⟩
 intro p hk0
 obtain ⟨hk,hgo,hs0,hs1,hn0,hn1⟩:=hk0
 refine zr<|zp (Av R R R)<|zn<|zs<|?_
 refine zd R (fun c14=> ?_) (fun c14=> ?_)
 obtain ⟨g,hg⟩:∃g,m.gs[p.1]? =some g:=Ax (by show p.1<6;omega)
 refine zi<|zs<|Ah<|zr<|zm R R<|zp (V1 (k:=p.1) R R R R Tryz.underlying24 Ai Ep (by omega) (Aqw hg))<|za R R<|za R R<|zn<|Ah<|zr<|zm R R<|zp (Av R R R)<|zm R R<|?_
 refine XL.dec 20 R (fun g20=> ?_) (fun g20=> ?_)
 exact zk 2 R<|zq R R R<|zm R R<|zk 7 R<|zq R R R<|za R R<|zn<|Aw (by kernel_rfl) R<|zr<|za R R<|zn<|zt<|z1 R R (rB (Y3 c10 (by rw [←hgo];exact S5 hg (by omega))))
 refine zm R R<|zp (Ba R R R)<|zq R R R<|zm R R<|?_
 refine XL.dec 24 R (fun g24=> ?_) (fun g24=> ?_)
 exact zk 7 R<|zq R R R<|za R R<|zn<|Aw (by kernel_rfl) R<|zr<|za R R<|zn<|zt<|z1 R R (rB (Y3 c10 (by rw [←hgo];exact S5 hg (by omega))))
 refine zm R R<|zp (Ba R R R)<|zm R R<|?_
 refine XL.dec 27 R (fun g27=> ?_) (fun g27=> ?_)
 refine zm R R<|zm R R<|zp (A5 R R R)<|zq R R R<|zq R R R<|za R R<|zn<|?_
 refine zd R (fun c17=> ?_) (fun c17=> ?_)
 exact zr<|za R R<|zn<|zt<|z1 R R (rB (Y3 c10 (by rw [←hgo];exact S5 hg (by omega))))
 refine zr<|zm R R<|zp (Ba R R R)<|za R R<|zn<|?_
 refine zd R (fun c33=> ?_) (fun c33=> ?_)
 refine Ag (by kernel_rfl)<|zm R R<|zm R R<|zp (Ak R R R (by omega) (by omega))<|zm R R<|zp (Ak R R R (by omega) (by omega))<|za R R<|za R R<|zn<|Ag (by kernel_rfl)<|zp (Ak R R R (by omega) (by omega))<|zm R R<|zn<|?_
 exact Al ((p.1+1,p.2.1+g,p.2.2+1)) (⟨by simp only;omega,by rw [←Ao0 hg (by omega) c33];exact hgo,by simp only;omega,by simp only;omega,by simp only;omega,by simp only;omega⟩) (by simp only;omega) (fz ⟨sr,sr,sr,sr,sr,trivial⟩) (gz ⟨rfl,trivial⟩)
 refine zi<|Ag (by kernel_rfl)<|zp (Ak R R R (by omega) (by omega))<|zm R R<|zn<|?_
 exfalso;omega
 refine zk 3 R<|zq R R R<|zq R R R<|za R R<|zn<|A7 (by kernel_rfl) R<|zr<|zm R R<|zp (Ba R R R)<|za R R<|zn<|?_
 refine zd R (fun c33=> ?_) (fun c33=> ?_)
 refine Ag (by kernel_rfl)<|zm R R<|zm R R<|zp (Ak R R R (by omega) (by omega))<|zm R R<|zp (Ak R R R (by omega) (by omega))<|za R R<|za R R<|zn<|Ag (by kernel_rfl)<|zp (Ak R R R (by omega) (by omega))<|zm R R<|zn<|?_
 exfalso;omega
 refine zi<|Ag (by kernel_rfl)<|zp (Ak R R R (by omega) (by omega))<|zm R R<|zn<|?_
 exact Al ((p.1+1,p.2.1,p.2.2)) (⟨by simp only;omega,by rw [←Aqy hg (by omega) c33];exact hgo,by simp only;omega,by simp only;omega,by simp only;omega,by simp only;omega⟩) (by simp only;omega) (fz ⟨sr,sr,sr,sr,sr,trivial⟩) (gz ⟨rfl,trivial⟩)
 have hke:p.1=6:=by omega
 have hend:gGo 0 0 0 m.gs=some (p.2.1,p.2.2):=by rw [←hgo,hke];rfl
 refine At<|zr<|zm R R<|zp (Aa R R Ib)<|zp (Ab R R Ai R R)<|zp (Bb R R R)<|zm R R<|?_
 refine XL.dec 46 R (fun g46=> ?_) (fun g46=> ?_)
 exact zm R R<|zp (Fx R R R)<|zq R R R<|za R R<|zn<|zt<|z1 R R (rB (by rw [decide_eq_decide,Ajc c10 hend];exact ⟨fun h=>⟨g46,h⟩,fun h=>h.2⟩))
 exact zk 2 R<|zq R R R<|za R R<|zn<|zt<|z1 R R (rB (by rw [eq_comm,decide_eq_false_iff_not,Ajc c10 hend];exact fun h=>g46 h.1))
def Me.pow (m:Me):Prop:=((m.unit.toNat &&& (m.unit - 1).toNat:Nat):Int)=0
instance (m:Me):Decidable m.pow:=by unfold Me.pow;exact inferInstance
def Me.err (m:Me):Int:=if m.count<1∨64<m.count then 2 else if m.unit<1∨64<m.unit∨¬m.pow then 17 else if ¬m.grouped then 19 else 0
theorem Aqp {m:Me} (h:m.count<1∨64<m.count):2=m.err:=by rw [Me.err,if_pos h]
theorem Alk {m:Me} (h:¬(m.count<1∨64<m.count)) (h2:m.unit<1∨64<m.unit∨¬m.pow):17=m.err:=by rw [Me.err,if_neg h,if_pos h2]
theorem As1 {m:Me} (h:¬(m.count<1∨64<m.count)) (h2:¬(m.unit<1∨64<m.unit∨¬m.pow)) (h3:¬m.grouped):19=m.err:=by rw [Me.err,if_neg h,if_neg h2,if_pos h3]
theorem As0 {m:Me} (h:¬(m.count<1∨64<m.count)) (h2:¬(m.unit<1∨64<m.unit∨¬m.pow)) (h3:m.grouped):0=m.err:=by rw [Me.err,if_neg h,if_neg h2,if_neg (fun k=>k h3)]
theorem Aeg {a b c:Prop} (h1:¬a) (h2:¬b) (h3:¬c):¬(a∨b∨c):=fun k=>k.elim h1 fun k=>k.elim h2 h3
theorem N6 {a b:Prop} (h1:¬a) (h2:¬b):¬(a∨b):=fun k=>k.elim h1 h2
theorem Ng (m:Me):XC Tryz.prog 53 [.agg (Me.c m)] (fun r=>r=dI m.err):=by
 refine Am Adf Tryz.func53 R R lb<|zr<|XL.step R (An 1 (l:= [.d (dI m.count), .d (dI m.unit), .d (dI m.g0), .d (dI m.g1), .d (dI m.g2), .d (dI m.g3), .d (dI m.g4), .d (dI m.g5)]) R R (by kernel_rfl))<|za R R<|zn<|zs<|Ah<|zr<|zp (Aa R R Ib)<|zp (Ab R R Ai R R)<|zp (Av R R R)<|zm R R<|?_
 refine XL.dec 7 R (fun g7=> ?_) (fun g7=> ?_)
 exact zk 3 R<|zq R R R<|za R R<|zn<|Aw (by kernel_rfl) R<|zr<|za R R<|zn<|zt<|z1 R R (rI (Aqp (.inl g7)))
 refine zp (Aa R R Ib)<|zp (Ab R R Ai R R)<|zp (Ba R R R)<|zq R R R<|za R R<|zn<|?_
 refine zd R (fun c3=> ?_) (fun c3=> ?_)
 exact zr<|za R R<|zn<|zt<|z1 R R (rI (Aqp (.inr c3)))
 refine zr<|zp (Aa R R Kf)<|zp (Ab R R Ai R R)<|zp (Av R R R)<|zm R R<|?_
 refine XL.dec 16 R (fun g16=> ?_) (fun g16=> ?_)
 exact zk 3 R<|zq R R R<|zm R R<|zk 7 R<|zq R R R<|za R R<|zn<|Aw (by kernel_rfl) R<|zr<|za R R<|zn<|zt<|z1 R R (rI (Alk (N6 g7 c3) (.inl g16)))
 refine zp (Aa R R Kf)<|zp (Ab R R Ai R R)<|zp (Ba R R R)<|zq R R R<|zm R R<|?_
 refine XL.dec 21 R (fun g21=> ?_) (fun g21=> ?_)
 exact zk 7 R<|zq R R R<|za R R<|zn<|Aw (by kernel_rfl) R<|zr<|za R R<|zn<|zt<|z1 R R (rI (Alk (N6 g7 c3) (.inr (.inl g21))))
 refine zp (Aa R R Kf)<|zp (Ab R R Ai R R)<|zp (Aa R R Kf)<|zp (Ab R R Ai R R)<|zp (E3 R R R (by omega) (by omega))<|zp (Amz R R R (by omega) (by omega) (by omega) (by omega))<|zp (A5 R R R)<|zq R R R<|za R R<|zn<|?_
 refine zd R (fun c12=> ?_) (fun c12=> ?_)
 exact zr<|za R R<|zn<|zt<|z1 R R (rI (Alk (N6 g7 c3) (.inr (.inr c12))))
 refine zr<|zp (Ae (s':= .d (.agg (Me.c m))) (Ac (Ad R R Bk R lb)) (by kernel_rfl))<|XL.call1 R R (Agj _) R<|zp (Fp R R)<|za R R<|zn<|?_
 refine zd R (fun c30=> ?_) (fun c30=> ?_)
 exact zr<|za R R<|zn<|zt<|z1 R R (rI (As1 (N6 g7 c3) (Aeg g16 g21 c12) c30))
 exact zi<|zr<|za R R<|zn<|zt<|z1 R R (rI (As0 (N6 g7 c3) (Aeg g16 g21 c12) (Decidable.not_not.1 c30)))
structure Mok (m:Me):Prop where
 count:1≤m.count∧m.count≤64
 unit:1≤m.unit∧m.unit≤64
 pow:m.pow
 grp:m.grouped
theorem Jv {m:Me} (h:¬m.err≠0):Mok m:=by
 have h0:m.err=0:=by omega
 unfold Me.err at h0
 split at h0
 ·omega
 ·split at h0
  ·omega
  ·rename_i h2
   split at h0
   ·omega
   ·rename_i h3
    exact ⟨by omega,⟨by omega,by omega⟩,Decidable.not_not.1 fun k=>h2 (.inr (.inr k)),Decidable.not_not.1 h3⟩
def Me.u (m:Me):Int:=1935360 / m.unit
def Me.len (m:Me):Int:=m.count*m.u
theorem Mok.u {m:Me} (h:Mok m):1≤m.u∧m.u≤1935360:=by
 have:=h.unit
 unfold Me.u
 exact ⟨(Int.le_ediv_iff_mul_le (by omega)).2 (by omega),Int.ediv_le_self _ (by omega)⟩
theorem Mok.len {m:Me} (h:Mok m):1≤m.len∧m.len≤123863040:=by
 have h1:=h.u
 have h2:=h.count
 unfold Me.len
 have h3:1*1≤m.count*m.u:=Int.mul_le_mul h2.1 h1.1 (by omega) (by omega)
 have h4:m.count*m.u≤64*1935360:=Int.mul_le_mul h2.2 h1.2 (by omega) (by omega)
 omega
theorem H0 (m:Me) (h:Mok m):XC Tryz.prog 93 [.agg (Me.c m)] (fun r=>r=dI m.u):=by
 have hu:=h.unit
 exact Am Acu Tryz.func93 R R lb<|zr<|XL.step R (An 1 (l:= [.d (dI m.count), .d (dI m.unit), .d (dI m.g0), .d (dI m.g1), .d (dI m.g2), .d (dI m.g3), .d (dI m.g4), .d (dI m.g5)]) R R (by kernel_rfl))<|za R R<|znr<|zp (Aa R R Kf)<|zp (Ab R R Ai R R)<|zp (I1 R R R (by omega) (by omega) (by omega))<|za R R<|zn<|zt<|z1 R R (rI R)
theorem Ll (m:Me) (h:Mok m):XC Tryz.prog 54 [.agg (Me.c m)] (fun r=>r=dI m.len):=by
 have hu:=h.u
 have hc:=h.count
 have hl:=h.len
 have hl2:m.count*m.u=m.len:=rfl
 refine Am Ade Tryz.func54 R R lb<|zr<|XL.step R (An 1 (l:= [.d (dI m.count), .d (dI m.unit), .d (dI m.g0), .d (dI m.g1), .d (dI m.g2), .d (dI m.g3), .d (dI m.g4), .d (dI m.g5)]) R R (by kernel_rfl))<|za R R<|zn<|zs<|B3 [] (by kernel_rfl) (by kernel_rfl) (by kernel_rfl) (by decide)<|yp (Aa R R Ib)<|yp (Ab R R Ai R R)<|?_
 refine yp (Ae (s':= .d (.agg (Me.c m))) (Ac (Ad R R Bk R lb)) (by kernel_rfl))<|ChK.cons R (CStep.call R (H0 _ (by assumption)) R)<|yp (Lk R R R (by omega) (by omega))<|ya R R<|?_
 refine ChK.nil ⟨by kernel_rfl, ?_⟩
 exact zt<|z1 R R (rI R)
end Go.Proofs.YtaafemnkamfgnaaGreat
namespace Go.Proofs.YtaafemnkamfgnaaGreat
open Go.RowKit
def Iu:List Int→Int
 | []=>0
 |x::r=>r.foldl min x
def Iv:List Int→Int
 | []=>0
 |x::r=>r.foldl max x
theorem Aio {l:List Int} (h:l≠ []) (x:Int):Iu (l++ [x])=min (Iu l) x:=by
 cases l with
 |nil=>exact absurd rfl h
 |cons a r=>simp only [Iu,List.cons_append,List.foldl_append,List.foldl_cons,List.foldl_nil]
theorem Air {l:List Int} (h:l≠ []) (x:Int):Iv (l++ [x])=max (Iv l) x:=by
 cases l with
 |nil=>exact absurd rfl h
 |cons a r=>simp only [Iv,List.cons_append,List.foldl_append,List.foldl_cons,List.foldl_nil]
theorem Ad1 {l:List Int} {k:Nat} (h:1≤k) (h2:0<l.length):l.take k≠ []:=fun e=>by
 have:=congrArg List.length e
 rw [List.length_take,List.length_nil] at this
 omega
theorem Ain {l:List Int} {k:Nat} {x:Int} (h:l[k]? =some x) (hk:1≤k):Iu (l.take (k+1))=min (Iu (l.take k)) x:=by
 rw [Bn h,Aio (Ad1 hk (by have:=(List.getElem?_eq_some_iff.1 h).1;omega))]
theorem Aiq {l:List Int} {k:Nat} {x:Int} (h:l[k]? =some x) (hk:1≤k):Iv (l.take (k+1))=max (Iv (l.take k)) x:=by
 rw [Bn h,Air (Ad1 hk (by have:=(List.getElem?_eq_some_iff.1 h).1;omega))]
theorem Yq {l:List Int} {x:Int} (h:l[0]? =some x):Iu (l.take 1)=x∧Iv (l.take 1)=x:=by
 cases l with
 |nil=>cases h
 |cons a r=>cases h;exact ⟨rfl,rfl⟩
theorem An4 (l:List Int) (h:0<l.length):XC Tryz.prog 181 [.sl 1 (B6 l)] (fun r=>r=dI (Iu l)):=by
 refine Am Aal Tryz.func181 R R lb<|zr<|za R R<|zn<|zs<|zr<|zm R R<|XL.len R R R Tryz.underlying45 fun hl6=>zp (Av R R R)<|zn<|?_
 refine zd R (fun c7=> ?_) (fun c7=> ?_)
 exfalso;omega
 refine zi<|zs<|?_
 obtain ⟨x,hx⟩:∃x,l[0]? =some x:=Ax h
 refine Ag (by kernel_rfl)<|zm R R<|zp (Ar (k:=0) R R R C7 (hx))<|zp (A4 R R Ai)<|za R R<|zn<|zs<|zr<|za R R<|zn<|Ah<|?_
 refine Az (α:=Nat) (fun k=>1≤k∧k≤l.length) (fun k=>mkF [(0, .d (.sl 1 (B6 l))),(2, .d (dI 0)),(3, .d (dI (Iu (l.take k)))),(4, .d (dI k))]) (fun k=>mkH []) (fun k=>l.length - k) (1) (⟨Nat.le_refl _,h⟩) ?_ ?_ ?_
 exact fz ⟨sr,sr, .same (sI (Yq hx).1.symm),sr,trivial⟩
 exact HSub.nil
 intro k hk0
 refine zs<|zr<|zm R R<|zm R R<|XL.len R R R Tryz.underlying45 fun hl14=>zp (Av R R R)<|zn<|?_
 refine zd R (fun c15=> ?_) (fun c15=> ?_)
 obtain ⟨y,hy⟩:∃y,l[k]? =some y:=Ax (by omega)
 refine zi<|zs<|Ah<|Ag (by kernel_rfl)<|zm R R<|zm R R<|zm R R<|zp (Ar R R R C7 (hy))<|zp (A4 R R Ai)<|zp (Fk R R R)<|za R R<|zn<|Ag (by kernel_rfl)<|zm R R<|?_
 refine zp (Ak R R R (by omega) (by omega))<|za R R<|zn<|?_
 exact Al (k+1) (by omega) (by omega) (fz ⟨sr,sr, .same (sI (by rw [Ain hy (by omega)])),sr,trivial⟩) (HSub.nil)
 have ht:l.take k=l:=List.take_of_length_le (by omega)
 exact At<|zr<|zm R R<|za R R<|zn<|zt<|z1 R R (rI (by rw [ht]))
theorem An5 (l:List Int) (h:0<l.length):XC Tryz.prog 182 [.sl 1 (B6 l)] (fun r=>r=dI (Iv l)):=by
 refine Am Aak Tryz.func182 R R lb<|zr<|za R R<|zn<|zs<|zr<|zm R R<|XL.len R R R Tryz.underlying45 fun hl6=>zp (Av R R R)<|zn<|?_
 refine zd R (fun c7=> ?_) (fun c7=> ?_)
 exfalso;omega
 refine zi<|zs<|?_
 obtain ⟨x,hx⟩:∃x,l[0]? =some x:=Ax h
 refine Ag (by kernel_rfl)<|zm R R<|zp (Ar (k:=0) R R R C7 (hx))<|zp (A4 R R Ai)<|za R R<|zn<|zs<|zr<|za R R<|zn<|Ah<|?_
 refine Az (α:=Nat) (fun k=>1≤k∧k≤l.length) (fun k=>mkF [(0, .d (.sl 1 (B6 l))),(2, .d (dI 0)),(3, .d (dI (Iv (l.take k)))),(4, .d (dI k))]) (fun k=>mkH []) (fun k=>l.length - k) (1) (⟨Nat.le_refl _,h⟩) ?_ ?_ ?_
 exact fz ⟨sr,sr, .same (sI (Yq hx).2.symm),sr,trivial⟩
 exact HSub.nil
 intro k hk0
 refine zs<|zr<|zm R R<|zm R R<|XL.len R R R Tryz.underlying45 fun hl14=>zp (Av R R R)<|zn<|?_
 refine zd R (fun c15=> ?_) (fun c15=> ?_)
 obtain ⟨y,hy⟩:∃y,l[k]? =some y:=Ax (by omega)
 refine zi<|zs<|Ah<|Ag (by kernel_rfl)<|zm R R<|zm R R<|zm R R<|zp (Ar R R R C7 (hy))<|zp (A4 R R Ai)<|zp (Q3 R R R)<|za R R<|zn<|Ag (by kernel_rfl)<|zm R R<|?_
 refine zp (Ak R R R (by omega) (by omega))<|za R R<|zn<|?_
 exact Al (k+1) (by omega) (by omega) (fz ⟨sr,sr, .same (sI (by rw [Aiq hy (by omega)])),sr,trivial⟩) (HSub.nil)
 have ht:l.take k=l:=List.take_of_length_le (by omega)
 exact At<|zr<|zm R R<|za R R<|zn<|zt<|z1 R R (rI (by rw [ht]))
def Ik (v:Int) (k:Nat):List Int→Int
 | []=> -1
 |x::r=>if v=x then k else Ik v (k+1) r
theorem Ai9 {v x:Int} {l:List Int} {k:Nat} (h:l[k]? =some x) (hv:v=x):Ik v k (l.drop k)=k:=by rw [Bq h,Ik,if_pos hv]
theorem Agh {v x:Int} {l:List Int} {k:Nat} (h:l[k]? =some x) (hv:¬v=x):Ik v k (l.drop k)=Ik v (k+1) (l.drop (k+1)):=by rw [Bq h,Ik,if_neg hv]
theorem Ai8 (v:Int) (l:List Int):∀k,0≤Ik v k l↔v∈l:=by
 induction l with
 |nil=>intro k;simp [Ik]
 |cons x r ih=>
  intro k
  rw [Ik]
  split
  ·rename_i h;simp [h]
  ·rename_i h;rw [ih,List.mem_cons];exact ⟨.inr,fun k=>k.elim (fun e=>absurd e h) fun e=>e⟩
theorem Ahy (l:List Int) (v:Int):XC Tryz.prog 203 [.sl 1 (B6 l), .v (.int .i64 v)] (fun r=>r=dI (Ik v 0 l)):=by
 refine Am Z1 Tryz.func203 R R lb<|zr<|za R R<|zn<|zs<|zr<|zm R R<|XL.len R R R Tryz.underlying45 fun hl7=>zm R R<|zn<|Ah<|?_
 refine Az (α:=Nat) (fun k=>k≤l.length∧Ik v k (l.drop k)=Ik v 0 l) (fun k=>mkF [(0, .d (.sl 1 (B6 l))),(1, .d (dI v)),(7, .d (dI l.length)),(8, .d (dI k))]) (fun k=>mkH []) (fun k=>l.length - k) (0) (⟨Nat.zero_le _,by rw [List.drop_zero]⟩) ?_ ?_ ?_
 exact fz ⟨sr,sr,sr,sr,trivial⟩
 exact HSub.nil
 intro k hk0
 obtain ⟨hk,hgo⟩:=hk0
 refine zr<|zp (Av R R R)<|zn<|zs<|?_
 refine zd R (fun c9=> ?_) (fun c9=> ?_)
 have hk0a:k<l.length:=by omega
 obtain ⟨x0,hx0⟩:=Ax hk0a
 refine zi<|zs<|Ah<|zr<|zm R R<|za R R<|znr<|zm R R<|zm R R<|zm R R<|zp (Ar R R R C7 hx0)<|zp (A4 R R Ai)<|zp (Bb R R R)<|zn<|?_
 refine zd R (fun c16=> ?_) (fun c16=> ?_)
 exact zr<|zm R R<|za R R<|zn<|zt<|z1 R R (rI (by rw [←hgo,Ai9 hx0 c16]))
 refine zi<|Ag (by kernel_rfl)<|zp (Ak R R R (by omega) (by omega))<|zm R R<|zn<|?_
 exact Al (k+1) (⟨by omega,by rw [←Agh hx0 c16];exact hgo⟩) (by omega) (fz ⟨sr,sr,sr,sr,trivial⟩) (HSub.nil)
 have hk0b:k=l.length:=by omega
 have hz:Ik v 0 l= -1:=by rw [←hgo,hk0b,List.drop_length];rfl
 exact At<|zr<|za R R<|zn<|zt<|z1 R R (rI hz.symm)
theorem Mc (l:List Int) (v:Int):XC Tryz.prog 183 [.sl 1 (B6 l), .v (.int .i64 v)] (fun r=>r=dB (decide (v∈l))):=by
 exact Am Aaj Tryz.func183 R R lb<|zr<|za R R<|znr<|zm R R<|zm R R<|XL.call1 R R (Ahy _ _) R<|zp (Fx R R R)<|za R R<|zn<|zt<|z1 R R (rB (by rw [decide_eq_decide];exact Ai8 v l 0))
end Go.Proofs.YtaafemnkamfgnaaGreat
namespace Go.Proofs.YtaafemnkamfgnaaGreat
open Go.RowKit
theorem Nw (l:List Hd) (h:l.length≤1000):XS Tryz.prog 140 [.sl 5 (l.map Hd.c)] (.own 5) [(5, .row 200 5 ((l).map Hd.c))]:=by
 refine Dt Qq Tryz.func140 R R lb (by kernel_rfl) (by kernel_rfl)<|zr<|za R R<|zn<|zs<|zr<|zm R R<|?_
 refine XL.eqnil R R R Tryz.underlying55 (fun hn4=> ?_) ?_
 refine zn<|Aw (by kernel_rfl) R<|zr<|za R R<|zn<|De 5 2 200 5 R<|zt<|?_
 exact ⟨Ck R (RVS.tmp R R),HSub.cons (by rw [hn4];rfl) (HSub.nil)⟩
 refine zn<|A7 (by kernel_rfl) R<|zi<|zr<|XL.step R (Bj 5 R Tryz.underlying55 Xt Rz R R (by omega) (by omega))<|zm R R<|XL.step R (A3 R Ajs (.own R) (Src.sl (by omega)) (by unfold maxLen;simp;omega) (by simp;omega))<|zp (As R (by conv=>lhs;whnf))<|?_
 refine zn<|zt<|?_
 exact ⟨Ck R (RVS.tmp R R),HSub.cons (R) (HSub.nil)⟩
theorem Acm (l:List Gr) (h:l.length≤1000):XS Tryz.prog 141 [.sl 5 (l.map Gr.c)] (.own 5) [(5, .row 203 5 ((l).map Gr.c))]:=by
 refine Dt Qp Tryz.func141 R R lb (by kernel_rfl) (by kernel_rfl)<|zr<|za R R<|zn<|zs<|zr<|zm R R<|?_
 refine XL.eqnil R R R Tryz.underlying56 (fun hn4=> ?_) ?_
 refine zn<|Aw (by kernel_rfl) R<|zr<|za R R<|zn<|De 5 2 203 5 R<|zt<|?_
 exact ⟨Ck R (RVS.tmp R R),HSub.cons (by rw [hn4];rfl) (HSub.nil)⟩
 refine zn<|A7 (by kernel_rfl) R<|zi<|zr<|XL.step R (Bj 5 R Tryz.underlying56 Xs Ry R R (by omega) (by omega))<|zm R R<|XL.step R (A3 R Ajr (.own R) (Src.sl (by omega)) (by unfold maxLen;simp;omega) (by simp;omega))<|zp (As R (by conv=>lhs;whnf))<|?_
 refine zn<|zt<|?_
 exact ⟨Ck R (RVS.tmp R R),HSub.cons (R) (HSub.nil)⟩
theorem Acj (l:List Sy) (h:l.length≤1000):XS Tryz.prog 142 [.sl 2 (l.map Sy.c)] (.own 5) [(5, .row 171 2 ((l).map Sy.c))]:=by
 refine Dt Qo Tryz.func142 R R lb (by kernel_rfl) (by kernel_rfl)<|zr<|za R R<|zn<|zs<|zr<|zm R R<|?_
 refine XL.eqnil R R R Tryz.underlying57 (fun hn4=> ?_) ?_
 refine zn<|Aw (by kernel_rfl) R<|zr<|za R R<|zn<|De 5 2 171 2 R<|zt<|?_
 exact ⟨Ck R (RVS.tmp R R),HSub.cons (by rw [hn4];rfl) (HSub.nil)⟩
 refine zn<|A7 (by kernel_rfl) R<|zi<|zr<|XL.step R (Bj 5 R Tryz.underlying57 Xu Oc R R (by omega) (by omega))<|zm R R<|XL.step R (A3 R Ajq (.own R) (Src.sl (by omega)) (by unfold maxLen;simp;omega) (by simp;omega))<|zp (As R (by conv=>lhs;whnf))<|?_
 refine zn<|zt<|?_
 exact ⟨Ck R (RVS.tmp R R),HSub.cons (R) (HSub.nil)⟩
theorem Zr (l:List Int) (h:l.length≤1000):XS Tryz.prog 200 [.sl 1 (l.map iv)] (.own 5) [(5, .row 3 1 ((l).map iv))]:=by
 refine Dt Z4 Tryz.func200 R R lb (by kernel_rfl) (by kernel_rfl)<|zr<|za R R<|zn<|zs<|zr<|zm R R<|?_
 refine XL.eqnil R R R Tryz.underlying45 (fun hn4=> ?_) ?_
 refine zn<|Aw (by kernel_rfl) R<|zr<|za R R<|zn<|De 5 2 3 1 R<|zt<|?_
 exact ⟨Ck R (RVS.tmp R R),HSub.cons (by rw [hn4];rfl) (HSub.nil)⟩
 refine zn<|A7 (by kernel_rfl) R<|zi<|zr<|XL.step R (Bj 5 R Tryz.underlying45 Ep Hc R R (by omega) (by omega))<|zm R R<|XL.step R (A3 R Qh (.own R) (Src.sl (by omega)) (by unfold maxLen;simp;omega) (by simp;omega))<|zp (As R (by conv=>lhs;whnf))<|?_
 refine zn<|zt<|?_
 exact ⟨Ck R (RVS.tmp R R),HSub.cons (R) (HSub.nil)⟩
def Ha {α:Type} (f:α→α) (l:List α) (k:Nat):List α:=(l.take k).map f++l.drop k
theorem Ox {α:Type} (f:α→α) (l:List α):l=Ha f l 0:=by simp [Ha]
theorem P4 {α:Type} {f:α→α} {l:List α} {k:Nat} (h:l.length≤k):Ha f l k=l.map f:=by rw [Ha,List.take_of_length_le h,List.drop_eq_nil_of_le h,List.append_nil]
theorem Nh {α:Type} (f:α→α) (l:List α) (k:Nat):(Ha f l k).length=l.length:=by rw [Ha,List.length_append,List.length_map,List.length_take,List.length_drop];omega
theorem P3 {α:Type} {f:α→α} {l:List α} {k:Nat} {x:α} (h:l[k]? =some x):(Ha f l k)[k]? =some x:=by
 have hk:=(List.getElem?_eq_some_iff.1 h).1
 rw [Ha,List.getElem?_append_right (by rw [List.length_map,List.length_take];omega),List.length_map,List.length_take,Nat.min_eq_left (by omega),Nat.sub_self,List.getElem?_drop]
 exact h
theorem P2 {α:Type} {f:α→α} {l:List α} {k:Nat} {x:α} (h:l[k]? =some x):Ha f l (k+1)=(Ha f l k).set k (f x):=by
 have hk:=(List.getElem?_eq_some_iff.1 h).1
 have hl:((l.take k).map f).length=k:=by rw [List.length_map,List.length_take];omega
 rw [Ha,Ha,Bn h,List.map_append,List.set_append_right _ _ (by omega),hl,Nat.sub_self,Bq h,List.set_cons_zero,List.append_assoc]
 rfl
def Hd.tie (h:Hd):Hd:=⟨h.p,true,h.sh⟩
def Hd.plain (h:Hd):Hd:=⟨h.p,h.tied,0⟩
theorem Pj (l:List Hd) (h:l.length≤1000):XC Tryz.prog 136 [.sl 5 (l.map Hd.c)] (fun r=>r= .sl 5 ((l.map Hd.tie).map Hd.c)):=by
 refine Am Abh Tryz.func136 R R lb<|zr<|za R R<|znr<|zm R R<|XL.callS R R ((Nw _ (by omega)).lab 7001) R<|zp (As R (by conv=>lhs;whnf))<|?_
 refine zn<|zs<|zr<|zp (Aq R (by conv=>lhs;whnf))<|?_
 refine zp (Bz R R R Tryz.underlying55)<|zm R R<|zn<|Ah<|?_
 refine Az (α:=Nat) (fun k=>k≤l.length) (fun k=>mkF [(0, .own 7001),(2, .d (.v (.slice none 0 0))),(6, .own 7001),(7, .d (dI l.length)),(8, .d (dI k))]) (fun k=>mkH [(7001, .row 200 5 ((Ha Hd.tie l k).map Hd.c))]) (fun k=>l.length - k) (0) (Nat.zero_le _) ?_ ?_ ?_
 exact fz ⟨sr,sr,sr,sr,sr,trivial⟩
 exact gz ⟨by rw [←Ox];rfl,trivial⟩
 intro k hk0
 refine zr<|zp (Av R R R)<|zn<|zs<|?_
 refine zd R (fun c9=> ?_) (fun c9=> ?_)
 have hkl:k<l.length:=by omega
 obtain ⟨x,hx⟩:=Ax hkl
 have hml:=Nh Hd.tie l k
 have hg:=P3 (f:=Hd.tie) hx
 refine zi<|zs<|Ah<|zr<|zm R R<|za R R<|zng<|zp (Aq R (by conv=>lhs;whnf))<|?_
 refine zm R R<|zp (Jp R R R R Rf (by omega))<|zp (Aa R R Ajf)<|XL.step R (E7 R R R (C6 hg) R R Asr R lb)<|zn<|Ag (by kernel_rfl)<|zp (Ak R R R (by omega) (by omega))<|zm R R<|zn<|?_
 exact Al (k+1) (by omega) (by omega) (fz ⟨sr,sr,sr,sr,sr,trivial⟩) (gz ⟨Pw (a:=Hd.tie x) R (P2 hx),trivial⟩)
 have he:=P4 (f:=Hd.tie) (l:=l) (k:=k) (by omega)
 refine At<|zr<|zp (Aq R (by conv=>lhs;whnf))<|?_
 refine zp (As R (by conv=>lhs;whnf))<|?_
 exact zn<|zt<|B5 (i:=7001) R<|z1 R R (rSl he)
theorem Pb (l:List Hd) (h:l.length≤1000):XC Tryz.prog 135 [.sl 5 (l.map Hd.c)] (fun r=>r= .sl 5 ((l.map Hd.plain).map Hd.c)):=by
 refine Am Abi Tryz.func135 R R lb<|zr<|za R R<|znr<|zm R R<|XL.callS R R ((Nw _ (by omega)).lab 7001) R<|zp (As R (by conv=>lhs;whnf))<|?_
 refine zn<|zs<|zr<|zp (Aq R (by conv=>lhs;whnf))<|?_
 refine zp (Bz R R R Tryz.underlying55)<|zm R R<|zn<|Ah<|?_
 refine Az (α:=Nat) (fun k=>k≤l.length) (fun k=>mkF [(0, .own 7001),(2, .d (.v (.slice none 0 0))),(6, .own 7001),(7, .d (dI l.length)),(8, .d (dI k))]) (fun k=>mkH [(7001, .row 200 5 ((Ha Hd.plain l k).map Hd.c))]) (fun k=>l.length - k) (0) (Nat.zero_le _) ?_ ?_ ?_
 exact fz ⟨sr,sr,sr,sr,sr,trivial⟩
 exact gz ⟨by rw [←Ox];rfl,trivial⟩
 intro k hk0
 refine zr<|zp (Av R R R)<|zn<|zs<|?_
 refine zd R (fun c9=> ?_) (fun c9=> ?_)
 have hkl:k<l.length:=by omega
 obtain ⟨x,hx⟩:=Ax hkl
 have hml:=Nh Hd.plain l k
 have hg:=P3 (f:=Hd.plain) hx
 refine zi<|zs<|Ah<|zr<|zm R R<|za R R<|zng<|zp (Aq R (by conv=>lhs;whnf))<|?_
 refine zm R R<|zp (Jp R R R R Rf (by omega))<|zp (Aa R R Wn)<|XL.step R (E7 R R R (C6 hg) R R Ep R lb)<|zn<|Ag (by kernel_rfl)<|zp (Ak R R R (by omega) (by omega))<|zm R R<|zn<|?_
 exact Al (k+1) (by omega) (by omega) (fz ⟨sr,sr,sr,sr,sr,trivial⟩) (gz ⟨Pw (a:=Hd.plain x) R (P2 hx),trivial⟩)
 have he:=P4 (f:=Hd.plain) (l:=l) (k:=k) (by omega)
 refine At<|zr<|zp (Aq R (by conv=>lhs;whnf))<|?_
 refine zp (As R (by conv=>lhs;whnf))<|?_
 exact zn<|zt<|B5 (i:=7001) R<|z1 R R (rSl he)
end Go.Proofs.YtaafemnkamfgnaaGreat
namespace Go.Proofs.YtaafemnkamfgnaaGreat
open Go.RowKit
def Ev.fit (e:Ev):Prop:=e.heads.length≤1000∧e.graces.length≤1000∧e.lyr.length≤1000
theorem Qi (e:Ev) (h:e.fit):XC Tryz.prog 111 [.agg (Ev.c e)] (fun r=>r= .agg (Ev.c e)):=by
 obtain ⟨h1,h2,h3⟩:=h
 refine Am Qt Tryz.func111 R R lb<|zr<|XL.step R (An 1 (l:= [.d (dI e.site), .d (dI e.num), .d (dI e.kind), .d (dI e.v.log), .d (dI e.v.dots), .d (.sl 5 (e.heads.map Hd.c)), .d (.sl 5 (e.graces.map Gr.c)), .d (dI e.art), .d (dI e.orn), .d (dI e.dyn), .d (.sl 2 (e.lyr.map Sy.c)), .d (dI e.stem), .d (dI e.beam)]) R R (by kernel_rfl))<|?_
 refine XL.step R (Ao 2 (l:= [.d (dI 0), .d (dI 0), .d (dI 0), .d (dI 0), .d (dI 0), .d (.v (.slice none 0 0)), .d (.v (.slice none 0 0)), .d (dI 0), .d (dI 0), .d (dI 0), .d (.v (.slice none 0 0)), .d (dI 0), .d (dI 0)]) R B8 (by kernel_rfl))<|zn<|zs<|Ca 10 [7001,7002,7003] (by kernel_rfl) (by kernel_rfl) (by kernel_rfl) (by kernel_rfl) (by decide)<|yp (Aa R R Cw)<|?_
 refine yp (Ab R R G4 R R)<|ChK.cons R (CStep.callS R ((Nw _ (by omega)).lab 7001) R (F4 (by kernel_rfl)))<|yp (Aa R R Fs)<|yp (Ab R R Nc R R)<|ChK.cons R (CStep.callS R ((Acm _ (by omega)).lab 7002) R (F4 (by kernel_rfl)))<|yp (Aa R R D9)<|yp (Ab R R I0 R R)<|?_
 refine ChK.cons R (CStep.callS R ((Acj _ (by omega)).lab 7003) R (F4 (by kernel_rfl)))<|yp (Aa R R Cw)<|?_
 refine ChK.nil ⟨by kernel_rfl, ?_⟩
 refine XL.step R (Af (l':= [.d (dI e.site), .d (dI e.num), .d (dI e.kind), .d (dI e.v.log), .d (dI e.v.dots), .own 7001, .d (.sl 5 (e.graces.map Gr.c)), .d (dI e.art), .d (dI e.orn), .d (dI e.dyn), .d (.sl 2 (e.lyr.map Sy.c)), .d (dI e.stem), .d (dI e.beam)]) R R R R M7 R lb (by kernel_rfl))<|zp (Aa R R Fs)<|?_
 refine XL.step R (Af (l':= [.d (dI e.site), .d (dI e.num), .d (dI e.kind), .d (dI e.v.log), .d (dI e.v.dots), .own 7001, .own 7002, .d (dI e.art), .d (dI e.orn), .d (dI e.dyn), .d (.sl 2 (e.lyr.map Sy.c)), .d (dI e.stem), .d (dI e.beam)]) R R R R Afl R lb (by kernel_rfl))<|zp (Aa R R D9)<|?_
 refine XL.step R (Af (l':= [.d (dI e.site), .d (dI e.num), .d (dI e.kind), .d (dI e.v.log), .d (dI e.v.dots), .own 7001, .own 7002, .d (dI e.art), .d (dI e.orn), .d (dI e.dyn), .own 7003, .d (dI e.stem), .d (dI e.beam)]) R R R R Afk R lb (by kernel_rfl))<|znr<|zp (Ac (Ad R R Bm R lb))<|?_
 refine XL.step R (Af (l':= [.d (dI e.site), .d (dI e.num), .d (dI e.kind), .d (dI e.v.log), .d (dI e.v.dots), .own 7001, .own 7002, .d (dI e.art), .d (dI e.orn), .d (dI e.dyn), .own 7003, .d (dI e.stem), .d (dI e.beam)]) R R R R Cx R lb (by kernel_rfl))<|zn<|zt<|B5 (i:=7001) R<|B5 (i:=7002) R<|B5 (i:=7003) R<|?_
 exact Jo R (RV.cells R R R Bm lb R) (R)
def Ev.eqv (a b:Ev):Prop:=(a.site=b.site∧a.num=b.num)∧a.same b
instance (a b:Ev):Decidable (a.eqv b):=by unfold Ev.eqv;exact inferInstance
structure Vo.fit (v:Vo):Prop where
 evs:v.evs.length≤1000
 tups:v.tups.length≤1000
 ev:∀e∈v.evs,e.fit
theorem Ks (v:Vo) (h:v.fit):XC Tryz.prog 82 [.agg (Vo.c v)] (fun r=>r= .agg (Vo.c v)):=by
 have h1:=h.evs
 have h2:=h.tups
 refine Am Rt Tryz.func82 R R lb<|zr<|XL.step R (An 1 (l:= [.d (.sl 13 (v.evs.map Ev.c)), .d (.sl 4 (v.tups.map Tp.c))]) R R (by kernel_rfl))<|XL.step R (Ao 2 (l:= [.d (.v (.slice none 0 0)), .d (.v (.slice none 0 0))]) R Be (by kernel_rfl))<|znr<|XL.step R (Ao 3 (l:= [.d (.v (.slice none 0 0)), .d (.v (.slice none 0 0))]) R Be (by kernel_rfl))<|zn<|zs<|zr<|?_
 refine zp (Aa R R Bl)<|zp (Ab R R Cy R R)<|XL.len R R R Tryz.underlying79 fun hl8=>zm R R<|zn<|Ah<|Eo 900 3 0 59 13 (l':= [.own 900, .d (.v (.slice none 0 0))]) R R (by decide) (by kernel_rfl)<|?_
 refine Az (α:=Nat) (fun k=>k≤v.evs.length) (fun k=>mkF [(1, .ptr 1 0 0),(2, .ptr 2 0 0),(3, .ptr 3 0 0),(7, .d (.sl 13 (v.evs.map Ev.c))),(8, .d (dI v.evs.length)),(9, .d (dI k))]) (fun k=>mkH [(1, .box ((Vo.c v).map S.d)),(2, .box [.d (.v (.slice none 0 0)), .d (.v (.slice none 0 0))]),(3, .box [.own 900, .d (.v (.slice none 0 0))]),(900, .row 59 13 ((v.evs.take k).map Ev.c))]) (fun k=>v.evs.length - k) (0) (Nat.zero_le _) ?_ ?_ ?_
 exact fz ⟨sr,sr,sr,sr,sr,sr,trivial⟩
 exact gz ⟨R,R,R,R,trivial⟩
 intro k hk0
 refine zr<|zp (Av R R R)<|zn<|zs<|?_
 refine zd R (fun c10=> ?_) (fun c10=> ?_)
 have hk0a:k<v.evs.length:=by omega
 obtain ⟨x0,hx0⟩:=Ax hk0a
 have hf:=h.ev x0 (List.mem_of_getElem? hx0)
 have htl:(v.evs.take k).length=k:=by rw [List.length_take];omega
 refine zi<|zs<|Ah<|zr<|zp (Ar R R R Gn hx0)<|zp (Ae (s':= .d (.agg (Ev.c x0))) (A8 R R Bm lb) (by kernel_rfl))<|XL.step R (Ao 5 (l:= [.d (dI 0), .d (dI 0), .d (dI 0), .d (dI 0), .d (dI 0), .d (.v (.slice none 0 0)), .d (.v (.slice none 0 0)), .d (dI 0), .d (dI 0), .d (dI 0), .d (.v (.slice none 0 0)), .d (dI 0), .d (dI 0)]) R B8 (by kernel_rfl))<|?_
 refine XL.step R (Af (l':= [.d (dI x0.site), .d (dI x0.num), .d (dI x0.kind), .d (dI x0.v.log), .d (dI x0.v.dots), .d (.sl 5 (x0.heads.map Hd.c)), .d (.sl 5 (x0.graces.map Gr.c)), .d (dI x0.art), .d (dI x0.orn), .d (dI x0.dyn), .d (.sl 2 (x0.lyr.map Sy.c)), .d (dI x0.stem), .d (dI x0.beam)]) R R R R Cx R lb (by kernel_rfl))<|zn<|?_
 refine Ca 5 [] (by kernel_rfl) (by kernel_rfl) (by kernel_rfl) (by kernel_rfl) (by decide)<|yp (Aa R R Bl)<|yp (Ab R R Cy R R)<|yp (Ae (s':= .d (.agg (Ev.c x0))) (Ac (Ad R R Bm R lb)) (by kernel_rfl))<|ChK.cons R (CStep.call R (Qi _ (by assumption)) R)<|ChK.cons R (CStep.slice R Tryz.underlying79 Cx B8 R R (by omega) (by omega))<|?_
 refine ChK.nil ⟨by kernel_rfl, ?_⟩
 refine XL.step R (A3 R F5 (.own R) (Src.sl (by omega)) (by unfold maxLen;simp;omega) (by simp;omega))<|zp (Aa R R Bl)<|XL.step R (Af (l':= [.own 900, .d (.v (.slice none 0 0))]) R R R R Qz R lb (by kernel_rfl))<|zn<|Ag (by kernel_rfl)<|zp (Ak R R R (by omega) (by omega))<|zm R R<|zn<|?_
 exact Al (k+1) (by omega) (by omega) (fz ⟨sr,sr,sr,sr,sr,sr,trivial⟩) (gz ⟨R,R,R,It R (Bn hx0),trivial⟩)
 have hk0b:k=v.evs.length:=by omega
 have ht:v.evs.take k=v.evs:=by rw [hk0b,List.take_length]
 refine At<|zr<|zp (Aa R R B0)<|zp (Ab R R B1 R R)<|zp (Aa R R B0)<|zp (Ab R R B1 R R)<|XL.step R (A3 R Fi (.nil 25 _ _) (Src.sl (by omega)) (by unfold maxLen;simp;omega) (by simp;omega))<|zp (Aa R R B0)<|XL.step R (Af (l':= [.own 900, .own 25]) R R R R Fv R lb (by kernel_rfl))<|znr<|?_
 refine zp (Ac (Ad R R Au R lb))<|XL.step R (Af (l':= [.own 900, .own 25]) R R R R Bo R lb (by kernel_rfl))<|zn<|zt<|B5 (i:=900) R<|B5 (i:=25) R<|?_
 exact Jo R (RV.cells R R R Au lb R) (by rw [ht];rfl)
end Go.Proofs.YtaafemnkamfgnaaGreat
namespace Go.Proofs.YtaafemnkamfgnaaGreat
open Go.RowKit
def Ev.further (x:Ev):Ev:=⟨0,0,x.kind,⟨0,0⟩,x.heads.map Hd.plain, [],0,0,0, [],x.stem,0⟩
def Ev.put (y:Ev) (v:Val) (t:Bool):Ev:=⟨y.site,y.num,y.kind,v,if t then y.heads.map Hd.tie else y.heads,y.graces,y.art,y.orn,y.dyn,y.lyr,y.stem,y.beam⟩
def E8 (x:Ev) (n:Nat) (fu:Bool) (i:Nat) (v:Val):Ev:=(if 0<(i:Int)∨fu=true then x.further else x).put v (decide ((i:Int)+1<(n:Int)))
def Br (x:Ev) (vs:List Val) (fu:Bool):List Ev:=vs.mapIdx (E8 x vs.length fu)
def Ju (x:Ev) (vs:List Val) (fu:Bool) (k:Nat):List Ev:=(vs.take k).mapIdx (E8 x vs.length fu)
theorem Hh {x:Ev} {vs:List Val} {fu:Bool} {k:Nat} {v:Val} (h:vs[k]? =some v) {y:Ev} (hy:E8 x vs.length fu k v=y):Ju x vs fu (k+1)=Ju x vs fu k++ [y]:=by
 have hk:=(List.getElem?_eq_some_iff.1 h).1
 rw [Ju,Bn h,List.mapIdx_append, ←hy]
 simp [Ju,List.length_take,Nat.min_eq_left (Nat.le_of_lt hk)]
theorem Aij {x:Ev} {n i:Nat} {fu:Bool} {v:Val} (h:0<(i:Int)∨fu=true) (h2:(i:Int)+1<(n:Int)):E8 x n fu i v=x.further.put v true:=by rw [E8,if_pos h,decide_eq_true h2]
theorem Aii {x:Ev} {n i:Nat} {fu:Bool} {v:Val} (h:0<(i:Int)∨fu=true) (h2:¬(i:Int)+1<(n:Int)):E8 x n fu i v=x.further.put v false:=by rw [E8,if_pos h,decide_eq_false h2]
theorem Aql {x:Ev} {n i:Nat} {fu:Bool} {v:Val} (h:¬0<(i:Int)) (h':fu=false) (h2:(i:Int)+1<(n:Int)):E8 x n fu i v=x.put v true:=by rw [E8,if_neg (by rw [h'];simp;omega),decide_eq_true h2]
theorem Aqk {x:Ev} {n i:Nat} {fu:Bool} {v:Val} (h:¬0<(i:Int)) (h':fu=false) (h2:¬(i:Int)+1<(n:Int)):E8 x n fu i v=x.put v false:=by rw [E8,if_neg (by rw [h'];simp;omega),decide_eq_false h2]
theorem Ml (x:Ev) (vs:List Val) (fu:Bool) (h:x.fit) (hv:vs.length≤3000):XS Tryz.prog 105 [.agg (Ev.c x), .sl 2 (vs.map Val.c), .v (.bool fu)] (.own 900) [(900, .row 59 13 ((Br x vs fu).map Ev.c))]:=by
 have hf:=h
 have hf1:=h.1
 refine Dt Abr Tryz.func105 R R lb (by kernel_rfl) (by kernel_rfl)<|zr<|XL.step R (An 3 (l:= [.d (dI x.site), .d (dI x.num), .d (dI x.kind), .d (dI x.v.log), .d (dI x.v.dots), .d (.sl 5 (x.heads.map Hd.c)), .d (.sl 5 (x.graces.map Gr.c)), .d (dI x.art), .d (dI x.orn), .d (dI x.dyn), .d (.sl 2 (x.lyr.map Sy.c)), .d (dI x.stem), .d (dI x.beam)]) R R (by kernel_rfl))<|za R R<|znr<|?_
 refine za R R<|zn<|zs<|zr<|zm R R<|XL.len R R R Tryz.underlying159 fun hl12=>zm R R<|zn<|Ah<|De 900 7 59 13 R<|?_
 refine Az (α:=Nat) (fun k=>k≤vs.length) (fun k=>mkF [(1, .d (.sl 2 (vs.map Val.c))),(2, .d (dB fu)),(3, .ptr 3 0 0),(6, .d (.v (.slice none 0 0))),(7, .own 900),(11, .d (.sl 2 (vs.map Val.c))),(12, .d (dI vs.length)),(13, .d (dI k))]) (fun k=>mkH [(3, .box ((Ev.c x).map S.d)),(900, .row 59 13 ((Ju x vs fu k).map Ev.c))]) (fun k=>vs.length - k) (0) (Nat.zero_le _) ?_ ?_ ?_
 exact fz ⟨sr,sr,sr,sr,sr,sr,sr,sr,trivial⟩
 exact gz ⟨R,R,trivial⟩
 intro k hk0
 refine zr<|zp (Av R R R)<|zn<|zs<|?_
 refine zd R (fun c14=> ?_) (fun c14=> ?_)
 have hk0a:k<vs.length:=by omega
 obtain ⟨x0,hx0⟩:=Ax hk0a
 have hnl:(Ju x vs fu k).length=k:=by rw [Ju,List.length_mapIdx,List.length_take];omega
 have hpl:(x.heads.map Hd.plain).length≤1000:=by rw [List.length_map];exact hf1
 refine zi<|zs<|Ah<|zr<|zm R R<|zp (Ar R R R Aq9 hx0)<|zp (Ae (s':= .d (.agg (Val.c x0))) (A8 R R D7 lb) (by kernel_rfl))<|XL.step R (Ao 9 (l:= [.d (dI 0), .d (dI 0)]) R Fd (by kernel_rfl))<|za R R<|XL.step R (Af (l':= [.d (dI x0.log), .d (dI x0.dots)]) R R R R G2 R lb (by kernel_rfl))<|znr<|?_
 refine zp (Ae (s':= .d (.agg (Ev.c x))) (Ac (Ad R R Bm R lb)) (by kernel_rfl))<|XL.call1 R R (Qi _ (by assumption)) R<|XL.step R (Ao 10 (l:= [.d (dI 0), .d (dI 0), .d (dI 0), .d (dI 0), .d (dI 0), .d (.v (.slice none 0 0)), .d (.v (.slice none 0 0)), .d (dI 0), .d (dI 0), .d (dI 0), .d (.v (.slice none 0 0)), .d (dI 0), .d (dI 0)]) R B8 (by kernel_rfl))<|?_
 refine XL.step R (Af (l':= [.d (dI x.site), .d (dI x.num), .d (dI x.kind), .d (dI x.v.log), .d (dI x.v.dots), .d (.sl 5 (x.heads.map Hd.c)), .d (.sl 5 (x.graces.map Gr.c)), .d (dI x.art), .d (dI x.orn), .d (dI x.dyn), .d (.sl 2 (x.lyr.map Sy.c)), .d (dI x.stem), .d (dI x.beam)]) R R R R Cx R lb (by kernel_rfl))<|zn<|zs<|zr<|zm R R<|zp (Ba R R R)<|zm R R<|?_
 refine XL.dec 22 R (fun g22=> ?_) (fun g22=> ?_)
 refine XL.skip R<|zq R R R<|zn<|Aw (by kernel_rfl) R<|Ca 7 [] (by kernel_rfl) (by kernel_rfl) (by kernel_rfl) (by kernel_rfl) (by decide)<|yp (Aa R R Db)<|yp (Ab R R Ai R R)<|yp (Aa R R H9)<|yp (Ab R R Ai R R)<|yp (Aa R R Cw)<|yp (Ab R R G4 R R)<|ChK.cons R (CStep.call R (Pb _ (by omega)) R)<|?_
 refine ChK.nil ⟨by kernel_rfl, ?_⟩
 refine zp (Ae (s':= .d (.agg [dI 0,dI 0,dI x.kind,dI 0,dI 0, .sl 5 ((x.heads.map Hd.plain).map Hd.c), .v (.slice none 0 0),dI 0,dI 0,dI 0, .v (.slice none 0 0),dI x.stem,dI 0])) (Ac (A0 R Pm B8 R)) (by kernel_rfl))<|?_
 refine XL.step R (Af (l':= [.d (dI 0), .d (dI 0), .d (dI x.kind), .d (dI 0), .d (dI 0), .d (.sl 5 ((x.heads.map Hd.plain).map Hd.c)), .d (.v (.slice none 0 0)), .d (dI 0), .d (dI 0), .d (dI 0), .d (.v (.slice none 0 0)), .d (dI x.stem), .d (dI 0)]) R R R R Cx R lb (by kernel_rfl))<|znr<|zp (Ae (s':= .d (.agg (Val.c x0))) (Ac (Ad R R D7 R lb)) (by kernel_rfl))<|?_
 refine zp (Aa R R Hb)<|XL.step R (Af (l':= [.d (dI 0), .d (dI 0), .d (dI x.kind), .d (dI x0.log), .d (dI x0.dots), .d (.sl 5 ((x.heads.map Hd.plain).map Hd.c)), .d (.v (.slice none 0 0)), .d (dI 0), .d (dI 0), .d (dI 0), .d (.v (.slice none 0 0)), .d (dI x.stem), .d (dI 0)]) R R R R G2 R lb (by kernel_rfl))<|zn<|zs<|zr<|zm R R<|zp (Ak R R R (by omega) (by omega))<|zm R R<|?_
 refine XL.len R R R Tryz.underlying159 fun hl38=>zp (Av R R R)<|zn<|?_
 refine zd R (fun c39=> ?_) (fun c39=> ?_)
 refine Ag (by kernel_rfl)<|zp (Aa R R Cw)<|zp (Ab R R G4 R R)<|XL.call1 R R (Pj _ (by omega)) R<|zp (Aa R R Cw)<|?_
 refine XL.step R (Af (l':= [.d (dI 0), .d (dI 0), .d (dI x.kind), .d (dI x0.log), .d (dI x0.dots), .d (.sl 5 (((x.heads.map Hd.plain).map Hd.tie).map Hd.c)), .d (.v (.slice none 0 0)), .d (dI 0), .d (dI 0), .d (dI 0), .d (.v (.slice none 0 0)), .d (dI x.stem), .d (dI 0)]) R R R R M7 R lb (by kernel_rfl))<|zng<|zp (Aq R (by conv=>lhs;whnf))<|?_
 refine zp (Ae (s':= .d (.agg [dI 0,dI 0,dI x.kind,dI x0.log,dI x0.dots, .sl 5 (((x.heads.map Hd.plain).map Hd.tie).map Hd.c), .v (.slice none 0 0),dI 0,dI 0,dI 0, .v (.slice none 0 0),dI x.stem,dI 0])) (Ac (Ad R R Bm R lb)) (by kernel_rfl))<|XL.step R (Bj 46 R Tryz.underlying79 Cx B8 R R (by omega) (by omega))<|?_
 refine XL.row1 (i:=46) R (.cons (.same R) (.cons (.same R) (.cons (.same R) (.cons (.same R) (.cons (.same R) (.cons (.same R) (.cons (.nil 5) (.cons (.same R) (.cons (.same R) (.cons (.same R) (.cons (.nil 2) (.cons (.same R) (.cons (.same R) (.nil))))))))))))))<|XL.step R (A3 R F5 (.own R) (Src.own R) (by unfold maxLen;simp;omega) (by simp;omega))<|?_
 refine zp (As R (by conv=>lhs;whnf))<|?_
 refine zn<|Ag (by kernel_rfl)<|zp (Ak R R R (by omega) (by omega))<|zm R R<|zn<|?_
 exact Al (k+1) (by omega) (by omega) (fz ⟨sr,sr,sr,sr,sr,sr,sr,sr,trivial⟩) (gz ⟨R,It R (Hh hx0 (Aij (.inl g22) c39)),trivial⟩)
 refine zi<|Ag (by kernel_rfl)<|zp (Aq R (by conv=>lhs;whnf))<|?_
 refine zp (Ae (s':= .d (.agg [dI 0,dI 0,dI x.kind,dI x0.log,dI x0.dots, .sl 5 ((x.heads.map Hd.plain).map Hd.c), .v (.slice none 0 0),dI 0,dI 0,dI 0, .v (.slice none 0 0),dI x.stem,dI 0])) (Ac (Ad R R Bm R lb)) (by kernel_rfl))<|XL.step R (Bj 46 R Tryz.underlying79 Cx B8 R R (by omega) (by omega))<|?_
 refine XL.row1 (i:=46) R (.cons (.same R) (.cons (.same R) (.cons (.same R) (.cons (.same R) (.cons (.same R) (.cons (.same R) (.cons (.nil 5) (.cons (.same R) (.cons (.same R) (.cons (.same R) (.cons (.nil 2) (.cons (.same R) (.cons (.same R) (.nil))))))))))))))<|XL.step R (A3 R F5 (.own R) (Src.own R) (by unfold maxLen;simp;omega) (by simp;omega))<|?_
 refine zp (As R (by conv=>lhs;whnf))<|?_
 refine zn<|Ag (by kernel_rfl)<|zp (Ak R R R (by omega) (by omega))<|zm R R<|zn<|?_
 exact Al (k+1) (by omega) (by omega) (fz ⟨sr,sr,sr,sr,sr,sr,sr,sr,trivial⟩) (gz ⟨R,It R (Hh hx0 (Aii (.inl g22) c39)),trivial⟩)
 refine zm R R<|zq R R R<|zn<|?_
 refine Ex (by kernel_rfl) R (fun c24=> ?_) (fun c24=> ?_)
 refine Ca 7 [] (by kernel_rfl) (by kernel_rfl) (by kernel_rfl) (by kernel_rfl) (by decide)<|yp (Aa R R Db)<|yp (Ab R R Ai R R)<|yp (Aa R R H9)<|yp (Ab R R Ai R R)<|yp (Aa R R Cw)<|yp (Ab R R G4 R R)<|ChK.cons R (CStep.call R (Pb _ (by omega)) R)<|?_
 refine ChK.nil ⟨by kernel_rfl, ?_⟩
 refine zp (Ae (s':= .d (.agg [dI 0,dI 0,dI x.kind,dI 0,dI 0, .sl 5 ((x.heads.map Hd.plain).map Hd.c), .v (.slice none 0 0),dI 0,dI 0,dI 0, .v (.slice none 0 0),dI x.stem,dI 0])) (Ac (A0 R Pm B8 R)) (by kernel_rfl))<|?_
 refine XL.step R (Af (l':= [.d (dI 0), .d (dI 0), .d (dI x.kind), .d (dI 0), .d (dI 0), .d (.sl 5 ((x.heads.map Hd.plain).map Hd.c)), .d (.v (.slice none 0 0)), .d (dI 0), .d (dI 0), .d (dI 0), .d (.v (.slice none 0 0)), .d (dI x.stem), .d (dI 0)]) R R R R Cx R lb (by kernel_rfl))<|znr<|zp (Ae (s':= .d (.agg (Val.c x0))) (Ac (Ad R R D7 R lb)) (by kernel_rfl))<|?_
 refine zp (Aa R R Hb)<|XL.step R (Af (l':= [.d (dI 0), .d (dI 0), .d (dI x.kind), .d (dI x0.log), .d (dI x0.dots), .d (.sl 5 ((x.heads.map Hd.plain).map Hd.c)), .d (.v (.slice none 0 0)), .d (dI 0), .d (dI 0), .d (dI 0), .d (.v (.slice none 0 0)), .d (dI x.stem), .d (dI 0)]) R R R R G2 R lb (by kernel_rfl))<|zn<|zs<|zr<|zm R R<|zp (Ak R R R (by omega) (by omega))<|zm R R<|?_
 refine XL.len R R R Tryz.underlying159 fun hl38=>zp (Av R R R)<|zn<|?_
 refine zd R (fun c39=> ?_) (fun c39=> ?_)
 refine Ag (by kernel_rfl)<|zp (Aa R R Cw)<|zp (Ab R R G4 R R)<|XL.call1 R R (Pj _ (by omega)) R<|zp (Aa R R Cw)<|?_
 refine XL.step R (Af (l':= [.d (dI 0), .d (dI 0), .d (dI x.kind), .d (dI x0.log), .d (dI x0.dots), .d (.sl 5 (((x.heads.map Hd.plain).map Hd.tie).map Hd.c)), .d (.v (.slice none 0 0)), .d (dI 0), .d (dI 0), .d (dI 0), .d (.v (.slice none 0 0)), .d (dI x.stem), .d (dI 0)]) R R R R M7 R lb (by kernel_rfl))<|zng<|zp (Aq R (by conv=>lhs;whnf))<|?_
 refine zp (Ae (s':= .d (.agg [dI 0,dI 0,dI x.kind,dI x0.log,dI x0.dots, .sl 5 (((x.heads.map Hd.plain).map Hd.tie).map Hd.c), .v (.slice none 0 0),dI 0,dI 0,dI 0, .v (.slice none 0 0),dI x.stem,dI 0])) (Ac (Ad R R Bm R lb)) (by kernel_rfl))<|XL.step R (Bj 46 R Tryz.underlying79 Cx B8 R R (by omega) (by omega))<|?_
 refine XL.row1 (i:=46) R (.cons (.same R) (.cons (.same R) (.cons (.same R) (.cons (.same R) (.cons (.same R) (.cons (.same R) (.cons (.nil 5) (.cons (.same R) (.cons (.same R) (.cons (.same R) (.cons (.nil 2) (.cons (.same R) (.cons (.same R) (.nil))))))))))))))<|XL.step R (A3 R F5 (.own R) (Src.own R) (by unfold maxLen;simp;omega) (by simp;omega))<|?_
 refine zp (As R (by conv=>lhs;whnf))<|?_
 refine zn<|Ag (by kernel_rfl)<|zp (Ak R R R (by omega) (by omega))<|zm R R<|zn<|?_
 exact Al (k+1) (by omega) (by omega) (fz ⟨sr,sr,sr,sr,sr,sr,sr,sr,trivial⟩) (gz ⟨R,It R (Hh hx0 (Aij (.inr c24) c39)),trivial⟩)
 refine zi<|Ag (by kernel_rfl)<|zp (Aq R (by conv=>lhs;whnf))<|?_
 refine zp (Ae (s':= .d (.agg [dI 0,dI 0,dI x.kind,dI x0.log,dI x0.dots, .sl 5 ((x.heads.map Hd.plain).map Hd.c), .v (.slice none 0 0),dI 0,dI 0,dI 0, .v (.slice none 0 0),dI x.stem,dI 0])) (Ac (Ad R R Bm R lb)) (by kernel_rfl))<|XL.step R (Bj 46 R Tryz.underlying79 Cx B8 R R (by omega) (by omega))<|?_
 refine XL.row1 (i:=46) R (.cons (.same R) (.cons (.same R) (.cons (.same R) (.cons (.same R) (.cons (.same R) (.cons (.same R) (.cons (.nil 5) (.cons (.same R) (.cons (.same R) (.cons (.same R) (.cons (.nil 2) (.cons (.same R) (.cons (.same R) (.nil))))))))))))))<|XL.step R (A3 R F5 (.own R) (Src.own R) (by unfold maxLen;simp;omega) (by simp;omega))<|?_
 refine zp (As R (by conv=>lhs;whnf))<|?_
 refine zn<|Ag (by kernel_rfl)<|zp (Ak R R R (by omega) (by omega))<|zm R R<|zn<|?_
 exact Al (k+1) (by omega) (by omega) (fz ⟨sr,sr,sr,sr,sr,sr,sr,sr,trivial⟩) (gz ⟨R,It R (Hh hx0 (Aii (.inr c24) c39)),trivial⟩)
 refine zi<|zr<|zp (Ae (s':= .d (.agg (Val.c x0))) (Ac (Ad R R D7 R lb)) (by kernel_rfl))<|zp (Aa R R Hb)<|?_
 refine XL.step R (Af (l':= [.d (dI x.site), .d (dI x.num), .d (dI x.kind), .d (dI x0.log), .d (dI x0.dots), .d (.sl 5 (x.heads.map Hd.c)), .d (.sl 5 (x.graces.map Gr.c)), .d (dI x.art), .d (dI x.orn), .d (dI x.dyn), .d (.sl 2 (x.lyr.map Sy.c)), .d (dI x.stem), .d (dI x.beam)]) R R R R G2 R lb (by kernel_rfl))<|zn<|zs<|zr<|zm R R<|zp (Ak R R R (by omega) (by omega))<|zm R R<|?_
 refine XL.len R R R Tryz.underlying159 fun hl38=>zp (Av R R R)<|zn<|?_
 refine zd R (fun c39=> ?_) (fun c39=> ?_)
 refine Ag (by kernel_rfl)<|zp (Aa R R Cw)<|zp (Ab R R G4 R R)<|XL.call1 R R (Pj _ (by omega)) R<|zp (Aa R R Cw)<|?_
 refine XL.step R (Af (l':= [.d (dI x.site), .d (dI x.num), .d (dI x.kind), .d (dI x0.log), .d (dI x0.dots), .d (.sl 5 ((x.heads.map Hd.tie).map Hd.c)), .d (.sl 5 (x.graces.map Gr.c)), .d (dI x.art), .d (dI x.orn), .d (dI x.dyn), .d (.sl 2 (x.lyr.map Sy.c)), .d (dI x.stem), .d (dI x.beam)]) R R R R M7 R lb (by kernel_rfl))<|zng<|zp (Aq R (by conv=>lhs;whnf))<|?_
 refine zp (Ae (s':= .d (.agg [dI x.site,dI x.num,dI x.kind,dI x0.log,dI x0.dots, .sl 5 ((x.heads.map Hd.tie).map Hd.c), .sl 5 (x.graces.map Gr.c),dI x.art,dI x.orn,dI x.dyn, .sl 2 (x.lyr.map Sy.c),dI x.stem,dI x.beam])) (Ac (Ad R R Bm R lb)) (by kernel_rfl))<|XL.step R (Bj 46 R Tryz.underlying79 Cx B8 R R (by omega) (by omega))<|?_
 refine XL.step R (A3 R F5 (.own R) (Src.own R) (by unfold maxLen;simp;omega) (by simp;omega))<|zp (As R (by conv=>lhs;whnf))<|?_
 refine zn<|Ag (by kernel_rfl)<|zp (Ak R R R (by omega) (by omega))<|zm R R<|zn<|?_
 exact Al (k+1) (by omega) (by omega) (fz ⟨sr,sr,sr,sr,sr,sr,sr,sr,trivial⟩) (gz ⟨R,It R (Hh hx0 (Aql g22 c24 c39)),trivial⟩)
 refine zi<|Ag (by kernel_rfl)<|zp (Aq R (by conv=>lhs;whnf))<|?_
 refine zp (Ae (s':= .d (.agg [dI x.site,dI x.num,dI x.kind,dI x0.log,dI x0.dots, .sl 5 (x.heads.map Hd.c), .sl 5 (x.graces.map Gr.c),dI x.art,dI x.orn,dI x.dyn, .sl 2 (x.lyr.map Sy.c),dI x.stem,dI x.beam])) (Ac (Ad R R Bm R lb)) (by kernel_rfl))<|XL.step R (Bj 46 R Tryz.underlying79 Cx B8 R R (by omega) (by omega))<|?_
 refine XL.step R (A3 R F5 (.own R) (Src.own R) (by unfold maxLen;simp;omega) (by simp;omega))<|zp (As R (by conv=>lhs;whnf))<|?_
 refine zn<|Ag (by kernel_rfl)<|zp (Ak R R R (by omega) (by omega))<|zm R R<|zn<|?_
 exact Al (k+1) (by omega) (by omega) (fz ⟨sr,sr,sr,sr,sr,sr,sr,sr,trivial⟩) (gz ⟨R,It R (Hh hx0 (Aqk g22 c24 c39)),trivial⟩)
 have hk0b:k=vs.length:=by omega
 have ht:Ju x vs fu k=Br x vs fu:=by rw [Ju,hk0b,List.take_length];rfl
 refine At<|zr<|zp (Aq R (by conv=>lhs;whnf))<|?_
 refine zp (As R (by conv=>lhs;whnf))<|?_
 refine zn<|zt<|?_
 exact ⟨Ck R (RVS.tmp R R),HSub.cons (by rw [ht];rfl) (HSub.nil)⟩
end Go.Proofs.YtaafemnkamfgnaaGreat
namespace Go.Proofs.YtaafemnkamfgnaaGreat
open Go.RowKit
def Ev.silent (e:Ev):Prop:=(e.kind=2∨e.kind=4)∧e.dyn=0∧e.art=0
instance (e:Ev):Decidable e.silent:=by unfold Ev.silent;exact inferInstance
def Ev.bare (y:Ev) (stem:Int):Ev:=⟨y.site,y.num,1,y.v,y.heads.map Hd.plain, [],0,0,0, [],stem,0⟩
def Xn (a b:List Hd):Prop:=∀(j:Nat) (x y:Hd),a[j]? =some x→b[j]? =some y→x.tied=true∧x.p=y.p
def Ev.conts (x y:Ev) (stem:Int):Prop:=x.kind=1∧x.heads.length=y.heads.length∧Xn x.heads y.heads∧y.eqv (y.bare stem)
open Classical in
noncomputable def Ev.contB (x y:Ev) (stem:Int):Bool:=decide (x.conts y stem)
def Pl.bad (p:Pl):Prop:=p.off<0∨15482880<p.off∨p.len<1∨15482880<p.len
instance (p:Pl):Decidable p.bad:=by unfold Pl.bad;exact inferInstance
def Pl.chk (p:Pl) (v:Vo):Int:=if p.m.err≠0 then p.m.err else if p.bad then 2 else ckE v p.len
theorem Asx {p:Pl} {v:Vo} (h:p.m.err≠0):p.m.err=p.chk v:=by rw [Pl.chk,if_pos h]
theorem Af2 {p:Pl} {v:Vo} (h:¬p.m.err≠0) (h2:p.bad):2=p.chk v:=by rw [Pl.chk,if_neg h,if_pos h2]
theorem Asw {p:Pl} {v:Vo} (h:¬p.m.err≠0) (h2:¬p.bad):ckE v p.len=p.chk v:=by rw [Pl.chk,if_neg h,if_neg h2]
theorem Af1 (p:Pl) (v:Vo) (hE:Evs v.evs):XC Tryz.prog 128 [.agg (Pl.c p), .agg (Vo.c v)] (fun r=>r=dI (p.chk v)):=by
 refine Am Abo Tryz.func128 R R lb<|zr<|XL.step R (An 2 (l:= [.d (dI p.m.count), .d (dI p.m.unit), .d (dI p.m.g0), .d (dI p.m.g1), .d (dI p.m.g2), .d (dI p.m.g3), .d (dI p.m.g4), .d (dI p.m.g5), .d (dI p.off), .d (dI p.len)]) R R (by kernel_rfl))<|XL.step R (An 3 (l:= [.d (.sl 13 (v.evs.map Ev.c)), .d (.sl 4 (v.tups.map Tp.c))]) R R (by kernel_rfl))<|za R R<|zn<|zs<|zr<|?_
 refine zp (Aa R R Mu)<|zp (Ae (s':= .d (.agg (Me.c p.m))) (Ac (Ad R R Bk R lb)) (by kernel_rfl))<|XL.call1 R R (Ng _) R<|za R R<|znr<|zm R R<|zp (A5 R R R)<|zn<|?_
 refine zd R (fun c10=> ?_) (fun c10=> ?_)
 exact zr<|zm R R<|za R R<|zn<|zt<|z1 R R (rI (Asx c10))
 refine zi<|zs<|zr<|zp (Aa R R Gh)<|zp (Ab R R Ai R R)<|zp (Av R R R)<|zm R R<|?_
 refine XL.dec 15 R (fun g15=> ?_) (fun g15=> ?_)
 exact zk 3 R<|zq R R R<|zm R R<|zk 3 R<|zq R R R<|zm R R<|zk 3 R<|zq R R R<|zn<|Aw (by kernel_rfl) R<|zr<|za R R<|zn<|zt<|z1 R R (rI (Af2 c10 (by unfold Pl.bad;omega)))
 refine zp (Aa R R Gh)<|zp (Ab R R Ai R R)<|zp (Ba R R R)<|zq R R R<|zm R R<|?_
 refine XL.dec 20 R (fun g20=> ?_) (fun g20=> ?_)
 exact zk 3 R<|zq R R R<|zm R R<|zk 3 R<|zq R R R<|zn<|Aw (by kernel_rfl) R<|zr<|za R R<|zn<|zt<|z1 R R (rI (Af2 c10 (by unfold Pl.bad;omega)))
 refine zp (Aa R R Cp)<|zp (Ab R R Ai R R)<|zp (Av R R R)<|zq R R R<|zm R R<|?_
 refine XL.dec 25 R (fun g25=> ?_) (fun g25=> ?_)
 exact zk 3 R<|zq R R R<|zn<|Aw (by kernel_rfl) R<|zr<|za R R<|zn<|zt<|z1 R R (rI (Af2 c10 (by unfold Pl.bad;omega)))
 refine zp (Aa R R Cp)<|zp (Ab R R Ai R R)<|zp (Ba R R R)<|zq R R R<|zn<|?_
 refine zd R (fun c29=> ?_) (fun c29=> ?_)
 exact zr<|za R R<|zn<|zt<|z1 R R (rI (Af2 c10 (by unfold Pl.bad;omega)))
 exact zi<|zr<|zp (Ae (s':= .d (.agg (Vo.c v))) (Ac (Ad R R Au R lb)) (by kernel_rfl))<|zp (Aa R R Cp)<|zp (Ab R R Ai R R)<|XL.call1 R R (Mz _ _ (by assumption)) R<|za R R<|zn<|zt<|z1 R R (rI (Asw c10 (by unfold Pl.bad;omega)))
end Go.Proofs.YtaafemnkamfgnaaGreat
namespace Go.Proofs.YtaafemnkamfgnaaGreat
open Go.RowKit
theorem Apc (t:Tp) (a b:Int):XC Tryz.prog 103 [.agg (Tp.c t), .pt [dI a], .pt [dI b]] (fun r=>r=dB (decide (a≤t.first∧t.first<b))):=by
 refine Am Abt Tryz.func103 R R lb<|zr<|XL.step R (An 3 (l:= [.d (dI t.first), .d (dI t.count), .d (dI t.actual), .d (dI t.normal)]) R R (by kernel_rfl))<|za R R<|znr<|zp (Aa R R Bp)<|zp (Ab R R Ai R R)<|zp (A4 R R Ai)<|zp (Fx R R R)<|zm R R<|?_
 refine XL.dec 9 R (fun g9=> ?_) (fun g9=> ?_)
 exact zp (Aa R R Bp)<|zp (Ab R R Ai R R)<|zp (A4 R R Ai)<|zp (Av R R R)<|zq R R R<|za R R<|zn<|zt<|z1 R R (rB (by rw [decide_eq_decide];omega))
 exact zk 4 R<|zq R R R<|za R R<|zn<|zt<|z1 R R (rB (by rw [eq_comm,decide_eq_false_iff_not];omega))
theorem An9 (t:Tp) (a:Int):XC Tryz.prog 175 [.agg (Tp.c t), .pt [dI a]] (fun r=>r=dB (decide (t.first<a))):=by
 exact Am Aaq Tryz.func175 R R lb<|zr<|XL.step R (An 2 (l:= [.d (dI t.first), .d (dI t.count), .d (dI t.actual), .d (dI t.normal)]) R R (by kernel_rfl))<|za R R<|znr<|zp (Aa R R Bp)<|zp (Ab R R Ai R R)<|zp (A4 R R Ai)<|zp (Av R R R)<|za R R<|zn<|zt<|z1 R R (R)
theorem An8 (t:Tp) (a b:Int) (h0:0≤a∧a≤100000) (h1:0≤b∧b≤100000):XC Tryz.prog 176 [.agg (Tp.c t), .pt [dI a], .pt [dI b]] (fun r=>r=dB (decide (a+b≤t.first))):=by
 exact Am Aap Tryz.func176 R R lb<|zr<|XL.step R (An 3 (l:= [.d (dI t.first), .d (dI t.count), .d (dI t.actual), .d (dI t.normal)]) R R (by kernel_rfl))<|za R R<|znr<|zp (Aa R R Bp)<|zp (Ab R R Ai R R)<|zp (A4 R R Ai)<|zp (A4 R R Ai)<|zp (Ak R R R (by omega) (by omega))<|zp (Fx R R R)<|za R R<|zn<|zt<|z1 R R (R)
theorem An7 (t:Tp):XC Tryz.prog 177 [.agg (Tp.c t)] (fun r=>r=dB true):=by
 exact Am Aao Tryz.func177 R R lb<|zr<|XL.step R (An 1 (l:= [.d (dI t.first), .d (dI t.count), .d (dI t.actual), .d (dI t.normal)]) R R (by kernel_rfl))<|za R R<|znr<|za R R<|zn<|zt<|z1 R R (R)
end Go.Proofs.YtaafemnkamfgnaaGreat
