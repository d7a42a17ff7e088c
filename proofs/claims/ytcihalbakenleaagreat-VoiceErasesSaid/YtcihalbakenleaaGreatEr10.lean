/- Part 10 of what the statements need: lemmas and walks. -/
import Derived.Test.YtcihalbakenleaaGreatEr9
set_option linter.unusedVariables false
set_option linter.unusedSimpArgs false
set_option linter.unusedSectionVars false
set_option maxRecDepth 20000
set_option maxHeartbeats 8000000
namespace Go.Proofs.YtcihalbakenleaaGreat
open Go.RowKit
theorem Akg (m:Me) (h:Mok m):XC Tryz.prog 179 [.agg (Me.c m)] (fun r=>r= .sl 1 (B8 m.beats)):=by
 have hg:=h.groups
 have hu:=h.u
 have hbl:=S3 m
 have hgl:=hg.len
 refine Ao Ade Tryz.func179 R R lb<|zr<|XL.step R (At 1 (l:= [.d (dI m.count), .d (dI m.unit), .d (dI m.g0), .d (dI m.g1), .d (dI m.g2), .d (dI m.g3), .d (dI m.g4), .d (dI m.g5)]) R R (by kernel_rfl))<|za R R<|znr<|za R R<|znr<|zp (Ae (s':= .d (.agg (Me.c m))) (Ac (Ad R R Bo R lb)) (by kernel_rfl))<|XL.call1 R R (T4 _ (by assumption)) R<|za R R<|znr<|?_
 refine za R R<|zn<|zs<|zr<|za R R<|zn<|Ah<|Di 900 3 3 1 R<|?_
 refine Ay (α:=Nat) (fun k=>k≤m.groups.length) (fun k=>mkF [(1, .ptr 1 0 0),(2, .d (.v (.slice none 0 0))),(3, .own 900),(4, .d (.sl 1 (B8 m.groups))),(5, .d (dI (tot (m.groups.take k)*m.u))),(6, .d (dI k))]) (fun k=>mkH [(1, .box ((Me.c m).map S.d)),(900, .row 3 1 ((m.beats.take k).map iv))]) (fun k=>m.groups.length - k) (0) (Nat.zero_le _) ?_ ?_ ?_
 exact fz ⟨sr,sr,sr,sr, .same (sI (by rw [List.take_zero];show 0=0*m.u;omega)),sr,trivial⟩
 exact gz ⟨R,R,trivial⟩
 intro k hk0
 refine zs<|zr<|zm R R<|zm R R<|XL.len R R R Tryz.underlying64 fun hl11=>zp (As R R R)<|zn<|?_
 refine zd R (fun c12=> ?_) (fun c12=> ?_)
 have hk0a:k<m.groups.length:=by omega
 obtain ⟨x0,hx0⟩:=Au hk0a
 have hx1:=hg.bd x0 (List.mem_of_getElem? hx0)
 have ht1:=hg.tot k
 have ht2:=hg.tot (k+1)
 have hb1:=Qd ht1.1 ht1.2 (by omega) hu.2
 have hb2:=Qd ht2.1 ht2.2 (by omega) hu.2
 have hb3:=Qd hx1.1 (by omega:x0≤4096) (by omega) hu.2
 have hst:tot (m.groups.take (k+1))*m.u=tot (m.groups.take k)*m.u+x0*m.u:=by rw [Qo hx0,Int.add_mul]
 have htl:(m.beats.take k).length=k:=by rw [List.length_take];omega
 refine zi<|zs<|Ah<|zr<|zp (Aw R (by conv=>lhs;whnf))<|?_
 refine zm R R<|XL.step R (Bj 17 R Tryz.underlying64 Cs Eu R R (by omega) (by omega))<|XL.step R (A7 R H3 (.own R) (Src.own R) (by unfold maxLen;simp;omega) (by simp;omega))<|zp (Ar R (by conv=>lhs;whnf))<|?_
 refine zn<|Bm [] (by kernel_rfl) (by kernel_rfl) (by kernel_rfl) (by decide)<|ym R R<|ym R R<|ym R R<|yp (Am R R R C5 hx0)<|yp (Az R R Ai)<|yp (Ae (s':= .d (.agg (Me.c m))) (Ac (Ad R R Bo R lb)) (by kernel_rfl))<|ChK.cons R (CStep.call R (Hu _ (by assumption)) R)<|yp (H7 R R R (by omega) (by omega))<|yp (Aj R R R (by omega) (by omega))<|?_
 refine ya R R<|?_
 refine ChK.nil ⟨by kernel_rfl, ?_⟩
 refine Af (by kernel_rfl)<|zm R R<|zp (Aj R R R (by omega) (by omega))<|za R R<|zn<|?_
 exact Ak (k+1) (by omega) (by omega) (fz ⟨sr,sr,sr,sr, .same (sI hst.symm),sr,trivial⟩) (gz ⟨R,Ea R (Bp (Pr hk0a)),trivial⟩)
 have hk0b:k=m.groups.length:=by omega
 have ht:m.beats.take k=m.beats:=by rw [hk0b, ←hbl,List.take_length]
 refine Ap<|zr<|zp (Aw R (by conv=>lhs;whnf))<|?_
 refine zp (Ar R (by conv=>lhs;whnf))<|?_
 exact zn<|zt<|Bg (i:=900) R<|z1 R R (rSl ht)
def Aal (l:List Int):Prop:=∀(j:Nat) x y,l[j]? =some x→l[0]? =some y→x=y
theorem Avb {l:List Int}:l≠ []→(∀x∈l,Hm l≤x∧x≤Hn l)∧(∀y,(∀x∈l,x=y)→Hm l=y∧Hn l=y):=by
 refine L6 (p:=fun l=>l≠ []→(∀x∈l,Hm l≤x∧x≤Hn l)∧(∀y,(∀x∈l,x=y)→Hm l=y∧Hn l=y)) (fun h=>absurd rfl h) (fun l a ih _=> ?_) l
 by_cases c:l= []
 ·subst c
  refine ⟨fun x hx=> ?_,fun y hy=> ?_⟩
  ·rw [List.nil_append] at hx;rw [List.mem_singleton.1 hx];exact ⟨Int.le_refl _,Int.le_refl _⟩
  ·have:=hy a (by simp);subst this;exact ⟨rfl,rfl⟩
 ·obtain ⟨h1,h2⟩:=ih c
  rw [Za c,Zc c]
  refine ⟨fun x hx=> ?_,fun y hy=> ?_⟩
  ·rcases List.mem_append.1 hx with q|q
   ·have:=h1 x q;omega
   ·rw [List.mem_singleton.1 q];omega
  ·have h3:=h2 y fun x hx=>hy x (List.mem_append_left _ hx)
   have h4:=hy a (List.mem_append_right _ (List.mem_singleton.2 rfl))
   omega
theorem Z0 {l:List Int} (hne:l≠ []):Aal l↔Hm l=Hn l:=by
 obtain ⟨h1,h2⟩:=Avb hne
 obtain ⟨y,hy⟩:∃y,l[0]? =some y:=Au (by cases l with|nil=>exact absurd rfl hne|cons a l=>simp)
 constructor
 ·intro h
  have:=h2 y fun x hx=>by
   obtain ⟨j,hj⟩:=List.getElem?_of_mem hx
   exact h j x y hj hy
  omega
 ·intro h j x z hx hz
  have h3:=h1 x (List.mem_of_getElem? hx)
  have h4:=h1 z (List.mem_of_getElem? hz)
  omega
instance (l:List Int):Decidable (Aal l):=by
 cases l with
 |nil=>exact .isTrue fun j x y h=>by simp at h
 |cons a l=>exact decidable_of_iff _ (Z0 (l:=a::l) (by simp)).symm
def leN (l:List Int) (t:Int):Nat:=(l.takeWhile fun x=>decide (x≤t)).length
def Ab1 (l:List Int) (t:Int) (n:Nat):Int:=if n=0 then 0 else t - l[n - 1]?.getD 0
def Als (n:Nat):Int:=if n=0 then 0 else ((n - 1:Nat):Int)
theorem Anr {l:List Int} {t:Int} {k:Nat} (h1:k≤l.length) (h2:∀(j:Nat) x,j<k→l[j]? =some x→decide (x≤t)=true) (h3:k=l.length∨∃x,l[k]? =some x∧decide (x≤t)=false):leN l t=k:=by
 rw [leN,Z3 h1 h2 h3,List.length_take];omega
theorem Aax {p:Int→Bool}:∀{l:List Int} {x:Int},x∈l.takeWhile p→p x=true
 | [],x,h=>by simp at h
 |a::l,x,h=>by
  by_cases c:p a=true
  ·rw [List.takeWhile_cons_of_pos c] at h
   rcases List.mem_cons.1 h with e|e
   ·rw [e];exact c
   ·exact Aax e
  ·rw [List.takeWhile_cons_of_neg c] at h;cases h
theorem Ap6 {l:List Int} {t:Int} (hinc:∀(i j:Nat) x y,i<j→l[i]? =some x→l[j]? =some y→x<y) (h0:l[0]? =some 0) (ht:0≤t):Ab1 l t (leN l t)=0↔t∈l:=by
 have hle:leN l t≤l.length:=(List.takeWhile_sublist _).length_le
 have hall:∀(j:Nat) x,j<leN l t→l[j]? =some x→x≤t:=fun j x hj hx=>by
  have hm:(l.takeWhile fun x=>decide (x≤t))[j]? =some x:=by
   have hp:=List.takeWhile_prefix (l:=l) fun x=>decide (x≤t)
   obtain ⟨s,hs⟩:=hp
   have:(l.takeWhile (fun x=>decide (x≤t))++s)[j]? =some x:=by rw [hs];exact hx
   rwa [List.getElem?_append_left hj] at this
  exact of_decide_eq_true (Aax (p:=fun x=>decide (x≤t)) (List.mem_of_getElem? hm))
 have hpos:leN l t≠0:=fun k=>by
  unfold leN at k
  cases hl:l with
  |nil=>rw [hl] at h0;cases h0
  |cons a r=>
   rw [hl] at h0 k
   cases h0
   rw [List.takeWhile_cons_of_pos (by simpa using ht)] at k
   cases k
 obtain ⟨y,hy⟩:∃y,l[leN l t - 1]? =some y:=Au (by omega)
 rw [Ab1,if_neg hpos,hy]
 show t - y=0↔t∈l
 constructor
 ·intro h;rw [show t=y by omega];exact List.mem_of_getElem? hy
 ·intro h
  obtain ⟨i,hi⟩:=List.getElem?_of_mem h
  have hyt:=hall _ y (by omega) hy
  by_cases c:i<leN l t - 1
  ·have:=hinc i _ t y c hi hy;omega
  ·by_cases c2:i=leN l t - 1
   ·rw [c2,hy] at hi;cases hi;omega
   ·have:=hinc _ i y t (by omega) hy hi
    have hil:=(List.getElem?_eq_some_iff.1 hi).1
    obtain ⟨z,hz⟩:∃z,l[leN l t]? =some z:=Au (by omega)
    have hzt:t<z:=by
     refine Int.not_le.1 fun k=> ?_
     have e:leN l t=leN l t+1→False:=fun e=>by omega
     have hpre:∀(l:List Int) (n:Nat) (z:Int),n=(l.takeWhile fun x=>decide (x≤t)).length→l[n]? =some z→¬z≤t:=by
      intro l
      induction l with
      |nil=>intro n z _ h;simp at h
      |cons a r ih=>
       intro n z hn h
       by_cases c:a≤t
       ·rw [List.takeWhile_cons_of_pos (by simpa using c)] at hn
        subst hn
        exact ih _ z rfl (by simpa using h)
       ·rw [List.takeWhile_cons_of_neg (by simpa using c)] at hn
        subst hn
        cases h;exact c
     exact hpre l _ z rfl hz k
    by_cases c3:leN l t=i
    ·rw [c3,hi] at hz;cases hz;omega
    ·have:=hinc _ i z t (by omega) hz hi;omega
theorem Ak8 {m:Me} (h:Mok m):∀x∈m.groups,0<x:=by
 intro x hx
 by_cases c:m.flat
 ·by_cases c2:8≤m.unit∧m.count % 3=0
  ·rw [Ak7 (fun k=>k c) c2] at hx
   rw [List.eq_of_mem_replicate hx];decide
  ·rw [Aag (fun k=>k c) c2] at hx
   rw [List.eq_of_mem_replicate hx];decide
 ·rw [Aah c,X1 h.grp] at hx
  exact of_decide_eq_true (Aax (p:=fun g=>decide (0<g)) hx)
theorem Zz {m:Me} (h:Mok m):∀(i j:Nat) x y,i<j→m.beats[i]? =some x→m.beats[j]? =some y→x<y:=by
 intro i j x y hij hx hy
 have hu:=h.u
 have hg:=h.groups
 have hjl:=(List.getElem?_eq_some_iff.1 hy).1
 rw [S3] at hjl
 rw [Pr (by omega)] at hx hy
 cases hx;cases hy
 have hpos:=Ak8 h
 have h1:=K5 hpos (j:=i+1) (k:=j) (by omega)
 obtain ⟨g,hgi⟩:∃g,m.groups[i]? =some g:=Au (by omega)
 rw [Bp hgi,Hb] at h1
 have h2:=hpos g (List.mem_of_getElem? hgi)
 exact Int.mul_lt_mul_of_pos_right (by omega) (by omega)
theorem Ajq {m:Me} (h:Mok m):m.beats[0]? =some 0:=by
 have hg:=h.groups
 have:=hg.pos
 rw [Pr (by omega),List.take_zero,Hx,Int.zero_mul]
def rl (t u:Int):Nat→Nat→Int
 |0,_=>15
 |f+1,k=>if (u / 2 ^ k*2 ^ k=u∧7560≤u / 2 ^ k)∧t % (u / 2 ^ k)=0 then 3+(k:Int) else rl t u f (k+1)
theorem u_7 {m:Me} (h:Mok m):m.u=1935360∨m.u=967680∨m.u=483840∨m.u=241920∨m.u=120960∨m.u=60480∨m.u=30240:=by
 have hp:M9 m.unit 7=true:=pow_iff.2 fun k=>k.elim (fun k=>by have:=h.unit;omega) fun k=>k.elim (fun k=>by have:=h.unit;omega) fun k=>k h.pow
 unfold M9 at hp
 rw [List.any_eq_true] at hp
 obtain ⟨i,hi,hp⟩:=hp
 have hi:=List.mem_range.1 hi
 have hp:=of_decide_eq_true hp
 unfold Me.u
 rw [hp]
 match i,hi with
 |0,_=>decide
 |1,_=>decide
 |2,_=>decide
 |3,_=>decide
 |4,_=>decide
 |5,_=>decide
 |6,_=>decide
 |i+7,h=>omega
theorem Awj {t u:Int} (hu:u=1935360∨u=967680∨u=483840∨u=241920∨u=120960∨u=60480∨u=30240):rl t u 9 0=if t % u=0 then 3 else Jf t 9 1 u:=by
 rcases hu with rfl|rfl|rfl|rfl|rfl|rfl|rfl<;>simp [rl,Jf]
theorem Amv {t u:Int} {f k:Nat} (h:(u / 2 ^ k*2 ^ k=u∧7560≤u / 2 ^ k)∧t % (u / 2 ^ k)=0):rl t u (f+1) k=3+(k:Int):=by rw [rl,if_pos h]
theorem Nt {t u:Int} {f k:Nat} (h:¬((u / 2 ^ k*2 ^ k=u∧7560≤u / 2 ^ k)∧t % (u / 2 ^ k)=0)):rl t u (f+1) k=rl t u f (k+1):=by rw [rl,if_neg h]
theorem Ai5 {m:Me} {a:Int} (hm:Mok m) (h:¬a % m.len=0) (h1:¬((2*(a % m.len)=m.len∧(m.groups.length:Int) % 2=0)∧Hm m.groups=Hn m.groups)) (h2:¬a % m.len∈m.beats):rl (a % m.len) m.u 9 0=m.level a:=by
 rw [Awj (u_7 hm),Me.level,if_neg h,if_neg h1,if_neg h2]
theorem Auy {k:Nat} (h:k≤9):1≤(2:Int) ^ k∧(2:Int) ^ k≤512:=by
 match k,h with
 |0,_=>decide
 |1,_=>decide
 |2,_=>decide
 |3,_=>decide
 |4,_=>decide
 |5,_=>decide
 |6,_=>decide
 |7,_=>decide
 |8,_=>decide
 |9,_=>decide
 |k+10,h=>omega
theorem Akf (l:List Int):XC Tryz.prog 159 [.sl 1 (B8 l)] (fun r=>r=dB (decide (Aal l∧(l.length:Int) % 2=0))):=by
 refine Ao Adw Tryz.func159 R R lb<|zr<|za R R<|zn<|zs<|zr<|za R R<|zn<|Ah<|?_
 refine Ay (α:=Nat) (fun k=>1≤k∧∀(j:Nat) x y,j<k→l[j]? =some x→l[0]? =some y→x=y) (fun k=>mkF [(0, .d (.sl 1 (B8 l))),(3, .d (dI (k:Nat)))]) (fun k=>mkH []) (fun k=>l.length+1 - k) (1) (⟨Nat.le_refl _,fun j x y hj hx hy=>by rw [show j=0 by omega,hy] at hx;cases hx;rfl⟩) ?_ ?_ ?_
 exact fz ⟨sr,sr,trivial⟩
 exact HSub.nil
 intro k hk0
 obtain ⟨hk,hall⟩:=hk0
 refine zs<|zr<|zm R R<|zm R R<|XL.len R R R Tryz.underlying64 fun hl6=>zp (As R R R)<|zn<|?_
 refine zd R (fun c7=> ?_) (fun c7=> ?_)
 have hkl:k<l.length:=by omega
 obtain ⟨x,hx⟩:=Au hkl
 obtain ⟨y,hy⟩:∃y,l[0]? =some y:=Au (by omega)
 refine zi<|zs<|Ah<|zs<|Bm [] (by kernel_rfl) (by kernel_rfl) (by kernel_rfl) (by decide)<|ym R R<|ym R R<|yp (Am R R R C5 (hx))<|yp (Az R R Ai)<|ym R R<|yp (Am (k:=0) R R R C5 (hy))<|yp (Az R R Ai)<|yp (Be R R R)<|?_
 refine ChK.nil ⟨by kernel_rfl, ?_⟩
 refine zd R (fun c17=> ?_) (fun c17=> ?_)
 exact zr<|za R R<|zn<|zt<|z1 R R (rB (dno (fun h=>c17 (h.1 k x y hx hy))))
 refine zi<|Af (by kernel_rfl)<|zm R R<|zp (Aj R R R (by omega) (by omega))<|za R R<|zn<|?_
 exact Ak (k+1) (⟨by omega,fun j x2 y2 hj hx2 hy2=>by by_cases e:j=k;(· subst e;rw [hx] at hx2;rw [hy] at hy2;cases hx2;cases hy2;exact Decidable.not_not.1 c17);(· exact hall j x2 y2 (by omega) hx2 hy2)⟩) (by omega) (fz ⟨sr,sr,trivial⟩) (HSub.nil)
 have hae:Aal l:=fun j x y hx hy=>hall j x y (by have:=(List.getElem?_eq_some_iff.1 hx).1;omega) hx hy
 exact Ap<|zr<|zm R R<|XL.len R R R Tryz.underlying64 fun hl19=>zp (D1 R R R (by omega) (by omega))<|zp (A5 R R R)<|za R R<|zn<|zt<|z1 R R (rB (by rw [decide_eq_decide];exact ⟨fun h=>⟨hae,h⟩,fun h=>h.2⟩))
theorem As0 (m:Me) (a:Int) (h:Mok m) (ha:0≤a∧a≤4398046511104):XC Tryz.prog 158 [.agg (Me.c m), .v (.int .i64 a)] (fun r=>r= .tup [dI (Als (leN m.beats (a % m.len))),dI (Ab1 m.beats (a % m.len) (leN m.beats (a % m.len)))]):=by
 have hl:=h.len
 have ht0:=Int.emod_nonneg a (by omega:m.len≠0)
 have ht1:=Int.emod_lt_of_pos a (by omega:0<m.len)
 refine Ao Adx Tryz.func158 R R lb<|zr<|XL.step R (At 2 (l:= [.d (dI m.count), .d (dI m.unit), .d (dI m.g0), .d (dI m.g1), .d (dI m.g2), .d (dI m.g3), .d (dI m.g4), .d (dI m.g5)]) R R (by kernel_rfl))<|za R R<|za R R<|znr<|zm R R<|zp (Ae (s':= .d (.agg (Me.c m))) (Ac (Ad R R Bo R lb)) (by kernel_rfl))<|XL.call1 R R (U1 _ (by assumption)) R<|?_
 refine zp (D1 R R R (by omega) (by omega))<|za R R<|znr<|zp (Ae (s':= .d (.agg (Me.c m))) (Ac (Ad R R Bo R lb)) (by kernel_rfl))<|XL.call1 R R (Akg _ (by assumption)) R<|za R R<|zn<|zs<|zr<|za R R<|zn<|Ah<|?_
 refine Ay (α:=Nat) (fun j=>j≤m.beats.length∧∀(i:Nat) x,i<j→m.beats[i]? =some x→decide (x≤a % m.len)=true) (fun j=>mkF [(4, .d (dI (Als j))),(5, .d (dI (Ab1 m.beats (a % m.len) j))),(6, .d (dI (a % m.len))),(7, .d (.sl 1 (B8 m.beats))),(8, .d (dI (j:Nat)))]) (fun j=>mkH []) (fun j=>m.beats.length - j) (0) (⟨Nat.zero_le _,fun i x h=>absurd h (Nat.not_lt_zero _)⟩) ?_ ?_ ?_
 exact fz ⟨sr,sr,sr,sr,sr,trivial⟩
 exact HSub.nil
 intro j hk0
 obtain ⟨hj,hall⟩:=hk0
 refine zs<|zr<|zm R R<|zm R R<|XL.len R R R Tryz.underlying64 fun hl17=>zp (As R R R)<|zm R R<|?_
 refine XL.dec 19 R (fun g19=> ?_) (fun g19=> ?_)
 obtain ⟨x,hx⟩:∃x,m.beats[j]? =some x:=Au (by omega)
 have hx0:0≤x:=by have h1:=Ajq h;by_cases e:j=0;(· rw [e,h1] at hx;cases hx;omega);(· have:=Zz h 0 j 0 x (by omega) h1 hx;omega)
 refine zm R R<|zm R R<|zp (Am R R R C5 (hx))<|zp (Az R R Ai)<|zm R R<|zp (Fx R R R)<|zq R R R<|zn<|?_
 refine zd R (fun c26=> ?_) (fun c26=> ?_)
 refine zi<|zs<|Ah<|Bm [] (by kernel_rfl) (by kernel_rfl) (by kernel_rfl) (by decide)<|ym R R<|ym R R<|ym R R<|ym R R<|yp (Am R R R C5 (hx))<|yp (Az R R Ai)<|yp (C9 R R R (by omega) (by omega))<|ya R R<|ya R R<|?_
 refine ChK.nil ⟨by kernel_rfl, ?_⟩
 refine Af (by kernel_rfl)<|zm R R<|zp (Aj R R R (by omega) (by omega))<|za R R<|zn<|?_
 exact Ak (j+1) (⟨by have:=(List.getElem?_eq_some_iff.1 hx).1;omega,fun i x2 hi hx2=>by by_cases e:i=j;(· subst e;rw [hx] at hx2;cases hx2;exact decide_eq_true c26);(· exact hall i x2 (by omega) hx2)⟩) (by have:=(List.getElem?_eq_some_iff.1 hx).1;omega) (fz ⟨.same (sI (by rw [Als,if_neg (by omega),Nat.add_sub_cancel])), .same (sI (by rw [Ab1,if_neg (by omega),Nat.add_sub_cancel,hx];rfl)),sr,sr,sr,trivial⟩) (HSub.nil)
 have hn:=Anr (t:=a % m.len) hj hall (.inr ⟨x,hx,decide_eq_false c26⟩)
 refine Ap<|zr<|zm R R<|zm R R<|za R R<|za R R<|zn<|zt<|?_
 exact Bh R (RV.tmp R R) (RV.tmp R R) (r2 (rI (by rw [hn])) (rI (by rw [hn])))
 have hn:=Anr (t:=a % m.len) hj hall (.inl (by omega))
 refine zk 6 R<|zq R R R<|zn<|A9 (by kernel_rfl) R<|Ap<|zr<|zm R R<|zm R R<|za R R<|za R R<|zn<|zt<|?_
 exact Bh R (RV.tmp R R) (RV.tmp R R) (r2 (rI (by rw [hn])) (rI (by rw [hn])))
theorem Q4 (m:Me) (a:Int) (h:Mok m) (ha:0≤a∧a≤4398046511104):XC Tryz.prog 126 [.agg (Me.c m), .v (.int .i64 a)] (fun r=>r=dI (m.level a)):=by
 have hl:=h.len
 have hg:=h.groups
 have hgp:=hg.pos
 have hu:=h.u
 have ht0:=Int.emod_nonneg a (by omega:m.len≠0)
 have ht1:=Int.emod_lt_of_pos a (by omega:0<m.len)
 have hof:=Ap6 (t:=a % m.len) (Zz h) (Ajq h) ht0
 have hne:m.groups≠ []:=fun k=>by rw [k] at hgp;exact absurd hgp (by decide)
 have hae:=Z0 hne
 refine Ao Aes Tryz.func126 R R lb<|zr<|XL.step R (At 2 (l:= [.d (dI m.count), .d (dI m.unit), .d (dI m.g0), .d (dI m.g1), .d (dI m.g2), .d (dI m.g3), .d (dI m.g4), .d (dI m.g5)]) R R (by kernel_rfl))<|za R R<|znr<|zm R R<|zp (Ae (s':= .d (.agg (Me.c m))) (Ac (Ad R R Bo R lb)) (by kernel_rfl))<|XL.call1 R R (U1 _ (by assumption)) R<|?_
 refine zp (D1 R R R (by omega) (by omega))<|za R R<|znr<|zp (Ae (s':= .d (.agg (Me.c m))) (Ac (Ad R R Bo R lb)) (by kernel_rfl))<|zm R R<|XL.call1 R R (As0 _ _ (by assumption) (by omega)) R<|zm R R<|zp (A6 R R R)<|zp (A6 R R R)<|za R R<|za R R<|zn<|zs<|Ah<|?_
 refine zr<|zm R R<|zp (A5 R R R)<|za R R<|zn<|?_
 refine zd R (fun c20=> ?_) (fun c20=> ?_)
 exact zr<|za R R<|zn<|zt<|z1 R R (rI (Avg c20))
 refine zr<|zm R R<|zp (H7 R R R (by omega) (by omega))<|zp (Ae (s':= .d (.agg (Me.c m))) (Ac (Ad R R Bo R lb)) (by kernel_rfl))<|XL.call1 R R (U1 _ (by assumption)) R<|zp (A5 R R R)<|zm R R<|?_
 refine XL.dec 29 R (fun g29=> ?_) (fun g29=> ?_)
 refine zp (Ae (s':= .d (.agg (Me.c m))) (Ac (Ad R R Bo R lb)) (by kernel_rfl))<|XL.call1 R R (T4 _ (by assumption)) R<|XL.call1 R R (Akf _) R<|zq R R R<|za R R<|zn<|?_
 refine zd R (fun c23=> ?_) (fun c23=> ?_)
 exact zr<|za R R<|zn<|zt<|z1 R R (rI (Avf c20 ⟨⟨g29,c23.2⟩,hae.1 c23.1⟩))
 refine zs<|?_
 have hns:¬((2*(a % m.len)=m.len∧(m.groups.length:Int) % 2=0)∧Hm m.groups=Hn m.groups):=by first|exact fun k=>c23 ⟨hae.2 k.2,k.1.2⟩|exact fun k=>g29 k.1.1
 refine Af (by kernel_rfl)<|zm R R<|zp (A5 R R R)<|za R R<|zn<|?_
 refine zd R (fun c34=> ?_) (fun c34=> ?_)
 exact zr<|za R R<|zn<|zt<|z1 R R (rI (Ab8 c20 hns (hof.1 c34)))
 refine zi<|zs<|zr<|za R R<|zn<|Ah<|?_
 refine Ay (α:=Nat) (fun k=>k≤9∧rl (a % m.len) m.u (9 - k) k=m.level a) (fun k=>mkF [(2, .ptr 2 0 0),(5, .d (dI (a % m.len))),(8, .d (dI (k:Nat)))]) (fun k=>mkH [(2, .box ((Me.c m).map S.d))]) (fun k=>9 - k) (0) (⟨Nat.zero_le _,Ai5 h c20 hns (fun q=>c34 (hof.2 q))⟩) ?_ ?_ ?_
 exact fz ⟨sr,sr,sr,trivial⟩
 exact gz ⟨R,trivial⟩
 intro k hk1
 obtain ⟨hk,hgo⟩:=hk1
 have hp9:=Auy hk
 have hq0:0≤m.u / 2 ^ k:=Int.ediv_nonneg (by omega) (by omega)
 have hq1:m.u / 2 ^ k≤m.u:=Int.ediv_le_self _ (by omega)
 have hq2:m.u / 2 ^ k*2 ^ k≤m.u:=Int.ediv_mul_le _ (by omega)
 have hq3:0≤m.u / 2 ^ k*2 ^ k:=Int.mul_nonneg hq0 (by omega)
 refine zs<|zr<|zm R R<|zp (Fx R R R)<|zn<|?_
 refine zd R (fun c38=> ?_) (fun c38=> ?_)
 obtain ⟨f,hf⟩:∃f,9 - k=f+1:=⟨8 - k,by omega⟩
 rw [hf] at hgo
 have hf2:9 - (k+1)=f:=by omega
 have hkn:(k:Int).toNat=k:=Int.toNat_natCast k
 refine zi<|zs<|Ah<|zr<|zp (Ae (s':= .d (.agg (Me.c m))) (Ac (Ad R R Bo R lb)) (by kernel_rfl))<|XL.call1 R R (Hu _ (by assumption)) R<|zm R R<|zp (Aac R R R (by omega) (by omega))<|za R R<|zn<|zs<|?_
 by_cases q50:m.u / 2 ^ k*2 ^ k=m.u
 by_cases q53:7560≤m.u / 2 ^ k
 refine Bm [] (by kernel_rfl) (by kernel_rfl) (by kernel_rfl) (by decide)<|ym R R<|ym R R<|yp (Tf R R R (by omega) (by omega) (by rw [hkn];omega) (by rw [hkn];omega))<|yp (Ae (s':= .d (.agg (Me.c m))) (Ac (Ad R R Bo R lb)) (by kernel_rfl))<|ChK.cons R (CStep.call R (Hu _ (by assumption)) R)<|yp (Dz (A5 R R R) (q50))<|ym R R<|ym R R<|?_
 refine yp (Dz (Dr R R R) (q53))<|yp (Ba R R (by conv=>lhs;whnf))<|?_
 refine ym R R<|ym R R<|ym R R<|yp (D1 R R R (by omega) (by rw [hkn];omega))<|yp (A5 R R R)<|yp (Ba R R (by conv=>lhs;whnf))<|?_
 refine ChK.nil ⟨by kernel_rfl, ?_⟩
 refine zd R (fun c60=> ?_) (fun c60=> ?_)
 exact zr<|zm R R<|zp (Aj R R R (by omega) (by omega))<|za R R<|zn<|zt<|z1 R R (rI ((Amv ⟨⟨q50,q53⟩,c60⟩).symm.trans hgo))
 refine zi<|Af (by kernel_rfl)<|zm R R<|zp (Aj R R R (by omega) (by omega))<|za R R<|zn<|?_
 exact Ak (k+1) (⟨by omega,by rw [hf2, ←hgo];exact (Nt (by first|exact fun q=>c60 q.2|exact fun q=>q53 q.1.2|exact fun q=>q50 q.1.1)).symm⟩) (by omega) (fz ⟨sr,sr,sr,trivial⟩) (gz ⟨rfl,trivial⟩)
 refine Bm [] (by kernel_rfl) (by kernel_rfl) (by kernel_rfl) (by decide)<|ym R R<|ym R R<|yp (Tf R R R (by omega) (by omega) (by rw [hkn];omega) (by rw [hkn];omega))<|yp (Ae (s':= .d (.agg (Me.c m))) (Ac (Ad R R Bo R lb)) (by kernel_rfl))<|ChK.cons R (CStep.call R (Hu _ (by assumption)) R)<|yp (Dz (A5 R R R) (q50))<|ym R R<|ym R R<|?_
 refine yp (F7 (Dr R R R) (q53))<|yp (Ba R R (by conv=>lhs;whnf))<|?_
 refine ym R R<|ChK.skip R<|ChK.skip R<|ChK.skip R<|ChK.skip R<|yp (Ba R R (by conv=>lhs;whnf))<|?_
 refine ChK.nil ⟨by kernel_rfl, ?_⟩
 refine A9 (by kernel_rfl) R<|zi<|Af (by kernel_rfl)<|zm R R<|zp (Aj R R R (by omega) (by omega))<|za R R<|zn<|?_
 exact Ak (k+1) (⟨by omega,by rw [hf2, ←hgo];exact (Nt (by first|exact fun q=>c60 q.2|exact fun q=>q53 q.1.2|exact fun q=>q50 q.1.1)).symm⟩) (by omega) (fz ⟨sr,sr,sr,trivial⟩) (gz ⟨rfl,trivial⟩)
 refine Bm [] (by kernel_rfl) (by kernel_rfl) (by kernel_rfl) (by decide)<|ym R R<|ym R R<|yp (Tf R R R (by omega) (by omega) (by rw [hkn];omega) (by rw [hkn];omega))<|yp (Ae (s':= .d (.agg (Me.c m))) (Ac (Ad R R Bo R lb)) (by kernel_rfl))<|ChK.cons R (CStep.call R (Hu _ (by assumption)) R)<|yp (F7 (A5 R R R) (q50))<|ym R R<|ChK.skip R<|ChK.skip R<|?_
 refine yp (Ba R R (by conv=>lhs;whnf))<|?_
 refine ym R R<|ChK.skip R<|ChK.skip R<|ChK.skip R<|ChK.skip R<|yp (Ba R R (by conv=>lhs;whnf))<|?_
 refine ChK.nil ⟨by kernel_rfl, ?_⟩
 refine A9 (by kernel_rfl) R<|zi<|Af (by kernel_rfl)<|zm R R<|zp (Aj R R R (by omega) (by omega))<|za R R<|zn<|?_
 exact Ak (k+1) (⟨by omega,by rw [hf2, ←hgo];exact (Nt (by first|exact fun q=>c60 q.2|exact fun q=>q53 q.1.2|exact fun q=>q50 q.1.1)).symm⟩) (by omega) (fz ⟨sr,sr,sr,trivial⟩) (gz ⟨rfl,trivial⟩)
 have hk9:k=9:=by omega
 subst hk9
 exact Ap<|zr<|za R R<|zn<|zt<|z1 R R (rI hgo)
 refine zk 3 R<|zq R R R<|za R R<|zn<|A9 (by kernel_rfl) R<|zs<|?_
 have hns:¬((2*(a % m.len)=m.len∧(m.groups.length:Int) % 2=0)∧Hm m.groups=Hn m.groups):=by first|exact fun k=>c23 ⟨hae.2 k.2,k.1.2⟩|exact fun k=>g29 k.1.1
 refine Af (by kernel_rfl)<|zm R R<|zp (A5 R R R)<|za R R<|zn<|?_
 refine zd R (fun c34=> ?_) (fun c34=> ?_)
 exact zr<|za R R<|zn<|zt<|z1 R R (rI (Ab8 c20 hns (hof.1 c34)))
 refine zi<|zs<|zr<|za R R<|zn<|Ah<|?_
 refine Ay (α:=Nat) (fun k=>k≤9∧rl (a % m.len) m.u (9 - k) k=m.level a) (fun k=>mkF [(2, .ptr 2 0 0),(5, .d (dI (a % m.len))),(8, .d (dI (k:Nat)))]) (fun k=>mkH [(2, .box ((Me.c m).map S.d))]) (fun k=>9 - k) (0) (⟨Nat.zero_le _,Ai5 h c20 hns (fun q=>c34 (hof.2 q))⟩) ?_ ?_ ?_
 exact fz ⟨sr,sr,sr,trivial⟩
 exact gz ⟨R,trivial⟩
 intro k hk1
 obtain ⟨hk,hgo⟩:=hk1
 have hp9:=Auy hk
 have hq0:0≤m.u / 2 ^ k:=Int.ediv_nonneg (by omega) (by omega)
 have hq1:m.u / 2 ^ k≤m.u:=Int.ediv_le_self _ (by omega)
 have hq2:m.u / 2 ^ k*2 ^ k≤m.u:=Int.ediv_mul_le _ (by omega)
 have hq3:0≤m.u / 2 ^ k*2 ^ k:=Int.mul_nonneg hq0 (by omega)
 refine zs<|zr<|zm R R<|zp (Fx R R R)<|zn<|?_
 refine zd R (fun c38=> ?_) (fun c38=> ?_)
 obtain ⟨f,hf⟩:∃f,9 - k=f+1:=⟨8 - k,by omega⟩
 rw [hf] at hgo
 have hf2:9 - (k+1)=f:=by omega
 have hkn:(k:Int).toNat=k:=Int.toNat_natCast k
 refine zi<|zs<|Ah<|zr<|zp (Ae (s':= .d (.agg (Me.c m))) (Ac (Ad R R Bo R lb)) (by kernel_rfl))<|XL.call1 R R (Hu _ (by assumption)) R<|zm R R<|zp (Aac R R R (by omega) (by omega))<|za R R<|zn<|zs<|?_
 by_cases q50:m.u / 2 ^ k*2 ^ k=m.u
 by_cases q53:7560≤m.u / 2 ^ k
 refine Bm [] (by kernel_rfl) (by kernel_rfl) (by kernel_rfl) (by decide)<|ym R R<|ym R R<|yp (Tf R R R (by omega) (by omega) (by rw [hkn];omega) (by rw [hkn];omega))<|yp (Ae (s':= .d (.agg (Me.c m))) (Ac (Ad R R Bo R lb)) (by kernel_rfl))<|ChK.cons R (CStep.call R (Hu _ (by assumption)) R)<|yp (Dz (A5 R R R) (q50))<|ym R R<|ym R R<|?_
 refine yp (Dz (Dr R R R) (q53))<|yp (Ba R R (by conv=>lhs;whnf))<|?_
 refine ym R R<|ym R R<|ym R R<|yp (D1 R R R (by omega) (by rw [hkn];omega))<|yp (A5 R R R)<|yp (Ba R R (by conv=>lhs;whnf))<|?_
 refine ChK.nil ⟨by kernel_rfl, ?_⟩
 refine zd R (fun c60=> ?_) (fun c60=> ?_)
 exact zr<|zm R R<|zp (Aj R R R (by omega) (by omega))<|za R R<|zn<|zt<|z1 R R (rI ((Amv ⟨⟨q50,q53⟩,c60⟩).symm.trans hgo))
 refine zi<|Af (by kernel_rfl)<|zm R R<|zp (Aj R R R (by omega) (by omega))<|za R R<|zn<|?_
 exact Ak (k+1) (⟨by omega,by rw [hf2, ←hgo];exact (Nt (by first|exact fun q=>c60 q.2|exact fun q=>q53 q.1.2|exact fun q=>q50 q.1.1)).symm⟩) (by omega) (fz ⟨sr,sr,sr,trivial⟩) (gz ⟨rfl,trivial⟩)
 refine Bm [] (by kernel_rfl) (by kernel_rfl) (by kernel_rfl) (by decide)<|ym R R<|ym R R<|yp (Tf R R R (by omega) (by omega) (by rw [hkn];omega) (by rw [hkn];omega))<|yp (Ae (s':= .d (.agg (Me.c m))) (Ac (Ad R R Bo R lb)) (by kernel_rfl))<|ChK.cons R (CStep.call R (Hu _ (by assumption)) R)<|yp (Dz (A5 R R R) (q50))<|ym R R<|ym R R<|?_
 refine yp (F7 (Dr R R R) (q53))<|yp (Ba R R (by conv=>lhs;whnf))<|?_
 refine ym R R<|ChK.skip R<|ChK.skip R<|ChK.skip R<|ChK.skip R<|yp (Ba R R (by conv=>lhs;whnf))<|?_
 refine ChK.nil ⟨by kernel_rfl, ?_⟩
 refine A9 (by kernel_rfl) R<|zi<|Af (by kernel_rfl)<|zm R R<|zp (Aj R R R (by omega) (by omega))<|za R R<|zn<|?_
 exact Ak (k+1) (⟨by omega,by rw [hf2, ←hgo];exact (Nt (by first|exact fun q=>c60 q.2|exact fun q=>q53 q.1.2|exact fun q=>q50 q.1.1)).symm⟩) (by omega) (fz ⟨sr,sr,sr,trivial⟩) (gz ⟨rfl,trivial⟩)
 refine Bm [] (by kernel_rfl) (by kernel_rfl) (by kernel_rfl) (by decide)<|ym R R<|ym R R<|yp (Tf R R R (by omega) (by omega) (by rw [hkn];omega) (by rw [hkn];omega))<|yp (Ae (s':= .d (.agg (Me.c m))) (Ac (Ad R R Bo R lb)) (by kernel_rfl))<|ChK.cons R (CStep.call R (Hu _ (by assumption)) R)<|yp (F7 (A5 R R R) (q50))<|ym R R<|ChK.skip R<|ChK.skip R<|?_
 refine yp (Ba R R (by conv=>lhs;whnf))<|?_
 refine ym R R<|ChK.skip R<|ChK.skip R<|ChK.skip R<|ChK.skip R<|yp (Ba R R (by conv=>lhs;whnf))<|?_
 refine ChK.nil ⟨by kernel_rfl, ?_⟩
 refine A9 (by kernel_rfl) R<|zi<|Af (by kernel_rfl)<|zm R R<|zp (Aj R R R (by omega) (by omega))<|za R R<|zn<|?_
 exact Ak (k+1) (⟨by omega,by rw [hf2, ←hgo];exact (Nt (by first|exact fun q=>c60 q.2|exact fun q=>q53 q.1.2|exact fun q=>q50 q.1.1)).symm⟩) (by omega) (fz ⟨sr,sr,sr,trivial⟩) (gz ⟨rfl,trivial⟩)
 have hk9:k=9:=by omega
 subst hk9
 exact Ap<|zr<|za R R<|zn<|zt<|z1 R R (rI hgo)
end Go.Proofs.YtcihalbakenleaaGreat
namespace Go.Proofs.YtcihalbakenleaaGreat
open Go.RowKit
theorem Ake (v:Val) (h:Dj v=0):XC Tryz.prog 156 [.agg (Val.c v)] (fun r=>r=dI (Cq v)):=by
 have hv:=O5 (v:=v) (by omega)
 have hp:=Mq v
 refine Ao Adz Tryz.func156 R R lb<|zr<|XL.step R (At 1 (l:= [.d (dI v.log), .d (dI v.dots)]) R R (by kernel_rfl))<|za R R<|znr<|za R R<|zn<|zs<|zr<|za R R<|zn<|Ah<|?_
 refine Ay (α:=Nat) (fun k=>(k:Int)≤v.log+1) (fun k=>mkF [(1, .ptr 1 0 0),(2, .d (dI 0)),(3, .d (dI (Jr k))),(4, .d (dI ((k:Int) - 1)))]) (fun k=>mkH [(1, .box ((Val.c v).map S.d))]) (fun k=>(v.log+1).toNat - k) (0) (by omega) ?_ ?_ ?_
 exact fz ⟨sr,sr, .same (sI (by decide)), .same (sI (by decide)),trivial⟩
 exact gz ⟨R,trivial⟩
 intro k hk0
 have hh:=Sq k
 refine zs<|zr<|zm R R<|zp (Aa R R Mm)<|zp (Ab R R Ai R R)<|zp (As R R R)<|zn<|?_
 refine zd R (fun c10=> ?_) (fun c10=> ?_)
 refine zi<|zs<|Ah<|Af (by kernel_rfl)<|zm R R<|zp (Gy R R R (by omega) (by omega) (by omega))<|za R R<|zn<|Af (by kernel_rfl)<|zm R R<|zp (Aj R R R (by omega) (by omega))<|za R R<|zn<|?_
 exact Ak (k+1) (by omega) (by omega) (fz ⟨sr,sr, .same (sI (P2 k)), .same (sI (by omega)),trivial⟩) (gz ⟨R,trivial⟩)
 have hpl:=W5 (v:=v) (k:=k) (by omega)
 refine Ap<|zr<|zm R R<|za R R<|zn<|zs<|zr<|za R R<|zn<|Ah<|?_
 refine Ay (α:=Nat) (fun m=>(m:Int)≤v.dots) (fun m=>mkF [(1, .ptr 1 0 0),(2, .d (dI 0)),(3, .d (dI (E6 (Eo v) m).1)),(5, .d (dI (E6 (Eo v) m).2)),(6, .d (dI (m:Nat)))]) (fun m=>mkH [(1, .box ((Val.c v).map S.d))]) (fun m=>v.dots.toNat - m) (0) (hv.2.2.1) ?_ ?_ ?_
 exact fz ⟨sr,sr, .same (sI hpl), .same (sI hpl),sr,trivial⟩
 exact gz ⟨R,trivial⟩
 intro m hk2
 refine zs<|zr<|zm R R<|zp (Aa R R Ii)<|zp (Ab R R Ai R R)<|zp (As R R R)<|zn<|?_
 refine zd R (fun c19=> ?_) (fun c19=> ?_)
 have hb:=Lj hp.1 m
 have hb2:Eo v*((m:Int)+1)≤3870720*4:=Int.mul_le_mul hp.2 (by omega) (by omega) (by omega)
 refine zi<|zs<|Ah<|zr<|zm R R<|zp (Gy R R R (by omega) (by omega) (by omega))<|za R R<|zng<|zm R R<|zm R R<|zp (Aj R R R (by omega) (by omega))<|za R R<|zn<|Af (by kernel_rfl)<|?_
 refine zm R R<|zp (Aj R R R (by omega) (by omega))<|za R R<|zn<|?_
 exact Ak (m+1) (by omega) (by omega) (fz ⟨sr,sr,sr,sr,sr,trivial⟩) (gz ⟨R,trivial⟩)
 have hke:v.dots.toNat=m:=by omega
 exact Ap<|zr<|zm R R<|za R R<|zn<|zt<|z1 R R (rI (by rw [Cq,hke]))
theorem Ajb {p:Val→Bool}:∀{l:List Val} {q:Nat} {x:Val},l[q]? =some x→p x=true→(∀(i:Nat) y,i<q→l[i]? =some y→p y=false)→l.find? p=some x
 | [],q,x,h,_,_=>by simp at h
 |a::l,0,x,h,hp,_=>by cases h;rw [List.find?_cons_of_pos hp]
 |a::l,q+1,x,h,hp,hb=>by
  rw [List.find?_cons_of_neg (by rw [hb 0 a (by omega) rfl];decide)]
  exact Ajb (by simpa using h) hp fun i y hi hy=>hb (i+1) y (by omega) hy
theorem Vi {q:Nat} (h:q<40):allV[q]? =some (Ec q):=by rw [allV,List.getElem?_map,Afm h];rfl
theorem Aq4:allV.length=40:=by rw [allV,List.length_map,allQ,List.length_ofFn]
theorem Aow (k j:Nat) (hj:j<4):Ec (4*k+j)=⟨(k:Int) - 1,(j:Int)⟩:=by
 unfold Ec
 rw [show (4*k+j) / 4=k by omega,show (4*k+j) % 4=j by omega]
theorem Avp {d:Int} {q:Nat} (hq:q<40) (hall:∀i,i<q→Cq (Ec i)≠d) (h:Cq (Ec q)=d):Ck d=Ec q∧E5 d=0:=by
 have:Ip d allV=some (Ec q):=Ajb (Vi hq) (by simpa using h) fun i y hi hy=>by
  rw [Vi (by omega)] at hy;cases hy;exact decide_eq_false (hall i hi)
 exact ⟨by rw [Ck,this];rfl,by rw [E5,this,if_neg (by simp)]⟩
theorem Atv {d:Int} (hall:∀i,i<40→Cq (Ec i)≠d):Ck d=⟨0,0⟩∧E5 d=17:=by
 have:Ip d allV=none:=by
  unfold Ip
  rw [List.find?_eq_none]
  intro x hx
  obtain ⟨i,hi⟩:=List.getElem?_of_mem hx
  have hl:=(List.getElem?_eq_some_iff.1 hi).1
  rw [Aq4] at hl
  rw [Vi hl] at hi;cases hi
  simpa using hall i hl
 exact ⟨by rw [Ck,this];rfl,by rw [E5,this,if_pos rfl]⟩
theorem Ar7 {d:Int} {v:Val} (h:Ck d=v∧E5 d=0):D.tup [.agg (Val.c v),dB true]= .tup [.agg (Val.c (Ck d)),dB (decide (E5 d=0))]:=by rw [h.1,h.2];rfl
theorem Aud {d:Int} (h:Ck d=⟨0,0⟩∧E5 d=17):D.tup [.agg (Val.c ⟨0,0⟩),dB false]= .tup [.agg (Val.c (Ck d)),dB (decide (E5 d=0))]:=by rw [h.1,h.2];rfl
theorem Akd (d:Int):XC Tryz.prog 125 [.v (.int .i64 d)] (fun r=>r= .tup [.agg (Val.c (Ck d)),dB (decide (E5 d=0))]):=by
 refine Ao Aet Tryz.func125 R R lb<|zr<|XL.step R (A0 2 (l:= [.d (dI 0), .d (dI 0)]) R Do (by kernel_rfl))<|za R R<|zn<|zs<|zr<|za R R<|zn<|Ah<|?_
 refine Ay (α:=Nat) (fun k=>k≤10∧∀i,i<4*k→Cq (Ec i)≠d) (fun k=>mkF [(0, .d (dI d)),(2, .ptr 2 0 0),(4, .d (dI ((k:Int) - 1)))]) (fun k=>mkH [(2, .box [.d (dI 0), .d (dI 0)])]) (fun k=>10 - k) (0) (⟨Nat.zero_le _,fun i h=>absurd h (Nat.not_lt_zero _)⟩) ?_ ?_ ?_
 exact fz ⟨sr,sr, .same (sI (by decide)),trivial⟩
 exact gz ⟨R,trivial⟩
 intro k hk0
 obtain ⟨hk,hall⟩:=hk0
 refine zs<|zr<|zm R R<|zp (Fx R R R)<|zn<|?_
 refine zd R (fun c8=> ?_) (fun c8=> ?_)
 refine zi<|zs<|Ah<|zr<|za R R<|zn<|Ah<|?_
 refine Ay (α:=Nat) (fun j=>j≤4∧∀i,i<4*k+j→Cq (Ec i)≠d) (fun j=>mkF [(0, .d (dI d)),(2, .ptr 2 0 0),(4, .d (dI ((k:Int) - 1))),(5, .d (dI (j:Nat)))]) (fun j=>mkH [(2, .box [.d (dI 0), .d (dI 0)])]) (fun j=>4 - j) (0) (⟨Nat.zero_le _,fun i h=>hall i (by omega)⟩) ?_ ?_ ?_
 exact fz ⟨sr,sr,sr,sr,trivial⟩
 exact gz ⟨R,trivial⟩
 intro j hk2
 obtain ⟨hj,hall2⟩:=hk2
 refine zs<|zr<|zm R R<|zp (Fx R R R)<|zn<|?_
 refine zd R (fun c12=> ?_) (fun c12=> ?_)
 have hj4:j<4:=by omega
 have hkj:=Aow k j hj4
 have hve:Dj ⟨(k:Int) - 1,(j:Int)⟩=0:=(R2 ⟨by show -1≤(k:Int) - 1;omega,by show (k:Int) - 1≤8;omega,by show (0:Int)≤(j:Int);omega,by show (j:Int)≤3;omega⟩).symm
 refine zi<|zs<|Ah<|zr<|zm R R<|zm R R<|zp (Ae (s':= .d (.agg [dI ((k:Int) - 1),dI (j:Nat)])) (Ac (A4 R J5 Do R)) (by kernel_rfl))<|XL.step R (A0 6 (l:= [.d (dI 0), .d (dI 0)]) R Do (by kernel_rfl))<|XL.step R (Ag (l':= [.d (dI ((k:Int) - 1)), .d (dI (j:Nat))]) R R R R Dx R lb (by kernel_rfl))<|znr<|?_
 refine zp (Ae (s':= .d (.agg [dI ((k:Int) - 1),dI (j:Nat)])) (Ac (Ad R R Co R lb)) (by kernel_rfl))<|XL.call1 R R (Ake ⟨(k:Int) - 1,(j:Int)⟩ hve) R<|zm R R<|zp (A5 R R R)<|zn<|?_
 refine zd R (fun c21=> ?_) (fun c21=> ?_)
 refine zr<|zp (Ae (s':= .d (.agg [dI ((k:Int) - 1),dI (j:Nat)])) (Ac (Ad R R Co R lb)) (by kernel_rfl))<|XL.step R (Ag (l':= [.d (dI ((k:Int) - 1)), .d (dI (j:Nat))]) R R R R Dx R lb (by kernel_rfl))<|za R R<|zn<|zt<|?_
 exact Bh R (RV.cells R R R Co lb R) (RV.tmp R R) (Ar7 (v:=⟨(k:Int) - 1,(j:Int)⟩) (by rw [←hkj];exact Avp (by omega) hall2 (by rw [hkj];exact c21)))
 refine zi<|Af (by kernel_rfl)<|zm R R<|zp (Aj R R R (by omega) (by omega))<|za R R<|zn<|?_
 exact Ak (j+1) (⟨by omega,fun i hi=>by by_cases e:i=4*k+j;(· rw [e,hkj];exact c21);(· exact hall2 i (by omega))⟩) (by omega) (fz ⟨sr,sr,sr,sr,trivial⟩) (gz ⟨rfl,trivial⟩)
 refine Ap<|Af (by kernel_rfl)<|zm R R<|zp (Aj R R R (by omega) (by omega))<|za R R<|zn<|?_
 exact Ak (k+1) (⟨by omega,fun i hi=>hall2 i (by omega)⟩) (by omega) (fz ⟨sr,sr, .same (sI (by omega)),trivial⟩) (gz ⟨rfl,trivial⟩)
 refine Ap<|zr<|zp (Ae (s':= .d (.agg [dI 0,dI 0])) (Ac (A4 R J5 Do R)) (by kernel_rfl))<|XL.step R (Ag (l':= [.d (dI 0), .d (dI 0)]) R R R R Dx R lb (by kernel_rfl))<|za R R<|zn<|zt<|?_
 exact Bh R (RV.cells R R R Co lb R) (RV.tmp R R) (Aud (Atv (fun i hi=>hall i (by omega))))
def stl (p:Int × Int × Bool):Int:=if p.2.2=true then p.2.1 else 99
theorem Z5 {p:Int × Int × Bool} (h:p.2.2=true):stl p=p.2.1:=by rw [stl,if_pos h]
theorem Arc {p:Int × Int × Bool} (h:¬p.2.2=true):stl p=99:=by rw [stl,if_neg h]
theorem Amd {m:Me} {a:Int} {k:Nat} (h:m.level (a+7560*(k+1))<stl (Ep m a k)):Ep m a (k+1)=(a+7560*(k+1),m.level (a+7560*(k+1)),true):=by
 refine I8 ?_
 by_cases c:(Ep m a k).2.2=true
 ·rw [Z5 c] at h;exact .inr h
 ·exact .inl (by simpa using c)
theorem Ard {m:Me} {a:Int} {k:Nat} (h:¬m.level (a+7560*(k+1))<stl (Ep m a k)):Ep m a (k+1)=Ep m a k:=by
 have hl:=Rg m (a+7560*(k+1))
 by_cases c:(Ep m a k).2.2=true
 ·rw [Z5 c] at h;exact S8 c h
 ·rw [Arc c] at h;omega
theorem Afy (m:Me) (a b:Int) (h:Mok m) (ha:0≤a∧a≤4398046511104) (hb:b≤4398046511104):XC Tryz.prog 124 [.agg (Me.c m), .v (.int .i64 a), .v (.int .i64 b)] (fun r=>r= .tup [dI (m.strong a b).1,dI (stl (m.strong a b))]):=by
 have hN:Dh a b=((b - a - 1) / 7560).toNat:=rfl
 refine Ao Aeu Tryz.func124 R R lb<|zr<|XL.step R (At 3 (l:= [.d (dI m.count), .d (dI m.unit), .d (dI m.g0), .d (dI m.g1), .d (dI m.g2), .d (dI m.g3), .d (dI m.g4), .d (dI m.g5)]) R R (by kernel_rfl))<|za R R<|za R R<|znr<|za R R<|zn<|zs<|zr<|zm R R<|zp (Aj R R R (by omega) (by omega))<|za R R<|zn<|?_
 refine Ah<|?_
 refine Ay (α:=Nat) (fun k=>k≤Dh a b) (fun k=>mkF [(2, .d (dI b)),(3, .ptr 3 0 0),(6, .d (dI (Ep m a k).1)),(7, .d (dI (stl (Ep m a k)))),(8, .d (dI (a+7560*(k+1))))]) (fun k=>mkH [(3, .box ((Me.c m).map S.d))]) (fun k=>Dh a b - k) (0) (Nat.zero_le _) ?_ ?_ ?_
 exact fz ⟨sr,sr,sr,sr, .same (sI (by omega)),trivial⟩
 exact gz ⟨R,trivial⟩
 intro k hk0
 refine zs<|zr<|zm R R<|zm R R<|zp (As R R R)<|zn<|?_
 refine zd R (fun c14=> ?_) (fun c14=> ?_)
 have hlt:k<Dh a b:=by omega
 refine zi<|zs<|Ah<|zr<|zp (Ae (s':= .d (.agg (Me.c m))) (Ac (Ad R R Bo R lb)) (by kernel_rfl))<|zm R R<|XL.call1 R R (Q4 _ _ (by assumption) (by omega)) R<|za R R<|znr<|zm R R<|zm R R<|zp (As R R R)<|zn<|?_
 refine zd R (fun c22=> ?_) (fun c22=> ?_)
 refine Af (by kernel_rfl)<|zm R R<|zm R R<|za R R<|za R R<|zn<|Af (by kernel_rfl)<|zm R R<|zp (Aj R R R (by omega) (by omega))<|za R R<|zn<|?_
 exact Ak (k+1) (by omega) (by omega) (fz ⟨sr,sr, .same (sI (by rw [Amd c22])), .same (sI (by rw [Amd c22];rfl)), .same (sI (by omega)),trivial⟩) (gz ⟨R,trivial⟩)
 refine zi<|Af (by kernel_rfl)<|zm R R<|zp (Aj R R R (by omega) (by omega))<|za R R<|zn<|?_
 exact Ak (k+1) (by omega) (by omega) (fz ⟨sr,sr, .same (sI (by rw [Ard c22])), .same (sI (by rw [Ard c22])), .same (sI (by omega)),trivial⟩) (gz ⟨R,trivial⟩)
 have hk:k=Dh a b:=by omega
 refine Ap<|zr<|zm R R<|zm R R<|za R R<|za R R<|zn<|zt<|?_
 exact Bh R (RV.tmp R R) (RV.tmp R R) (by rw [hk];rfl)
theorem Ald:(Ck 7560).dots=0:=by decide+kernel
theorem Q5 {m:Me} {a b:Int} (hab:a≤b) (hne:¬a=b) (ha:a % 7560=0) (hb:b % 7560=0) (h:¬((E5 (b - a)=0∧(Ck (b - a)).dots≤2)∧m.level a≤stl (m.strong a b)∧(0<(Ck (b - a)).dots∨m.level b≤stl (m.strong a b)))):(m.strong a b).2.2=true:=by
 refine Decidable.not_not.1 fun c=>h ?_
 have hn:=T0 (m:=m) (a:=a) (b:=b) (by simpa using c)
 unfold Dh at hn
 have hd:b - a=7560:=by omega
 have h1:=Rg m a
 have h2:=Rg m b
 rw [hd,Arc c,Zr,Ald]
 omega
theorem Ob {m:Me} {a b:Int} (h:(E5 (b - a)=0∧(Ck (b - a)).dots≤2)∧m.level a≤stl (m.strong a b)∧(0<(Ck (b - a)).dots∨m.level b≤stl (m.strong a b))):m.simp a b∨(m.strong a b).2.2=false:=by
 by_cases c:(m.strong a b).2.2=true
 ·rw [Z5 c] at h
  exact .inl ⟨h.1.1,h.1.2,fun _=>h.2⟩
 ·exact .inr (by simpa using c)
theorem Oc {m:Me} {a b:Int} (hw:(m.strong a b).2.2=true) (h:¬((E5 (b - a)=0∧(Ck (b - a)).dots≤2)∧m.level a≤stl (m.strong a b)∧(0<(Ck (b - a)).dots∨m.level b≤stl (m.strong a b)))):¬m.simp a b:=fun ⟨k1,k2,k3⟩=>h ⟨⟨k1,k2⟩,by rw [Z5 hw];exact k3 hw⟩
theorem Ng {m:Me} {a b:Int} (ha:a % 7560=0) (hw:(m.strong a b).2.2=true):(m.strong a b).1 % 7560=0:=by
 obtain ⟨j,_,hj⟩:=R5 hw
 rw [hj];omega
theorem Abk (m:Me) (h:Mok m) (f:Nat) (ih:∀a b,SpP f a b→a % 7560=0→b % 7560=0→XS Tryz.prog 76 [.agg (Me.c m),dI a,dI b] (.own 7001) [(7001, .row 56 2 ((Eq m f a b).map Val.c))]) (a b:Int) (hp:SpP (f+1) a b) (hma:a % 7560=0) (hmb:b % 7560=0):XS Tryz.prog 76 [.agg (Me.c m), .v (.int .i64 a), .v (.int .i64 b)] (.own 7001) [(7001, .row 56 2 ((Eq m (f+1) a b).map Val.c))]:=by
 obtain ⟨ha,hab,hb,hd,hf⟩:=id hp
 refine Ir Agr Tryz.func76 R R lb (by kernel_rfl) (by kernel_rfl)<|zr<|XL.step R (At 3 (l:= [.d (dI m.count), .d (dI m.unit), .d (dI m.g0), .d (dI m.g1), .d (dI m.g2), .d (dI m.g3), .d (dI m.g4), .d (dI m.g5)]) R R (by kernel_rfl))<|za R R<|zn<|zs<|zr<|zm R R<|zm R R<|zp (A5 R R R)<|zn<|?_
 refine zd R (fun c13=> ?_) (fun c13=> ?_)
 refine zr<|za R R<|zn<|Di 7001 6 56 2 R<|zt<|?_
 exact ⟨Eh R (RVS.tmp R R),HSub.cons (by first|exact Ds (by rw [Cx c13];rfl)|exact Fw (Cy c13 (Oc hw hno) hw)|exact Ds (by rw [Cw c13 (Ob ⟨⟨by omega,by omega⟩,by omega,by omega⟩)];rfl)) (HSub.nil)⟩
 refine zi<|zr<|zp (Ae (s':= .d (.agg (Me.c m))) (Ac (Ad R R Bo R lb)) (by kernel_rfl))<|zm R R<|zm R R<|XL.call1 R R (Afy _ _ _ (by assumption) (by omega) (by omega)) R<|zm R R<|zp (A6 R R R)<|zp (A6 R R R)<|za R R<|za R R<|znr<|zm R R<|zm R R<|?_
 refine zp (C9 R R R (by omega) (by omega))<|XL.call1 R R (Akd _) R<|zm R R<|zp (A6 R R R)<|zp (A6 R R R)<|XL.step R (A0 9 (l:= [.d (dI 0), .d (dI 0)]) R Do (by kernel_rfl))<|XL.step R (Ag (l':= [.d (dI (Ck (b - a)).log), .d (dI (Ck (b - a)).dots)]) R R R R Dx R lb (by kernel_rfl))<|za R R<|zn<|zs<|zr<|zm R R<|zm R R<|?_
 refine XL.bool 29 R (fun g29=> ?_) (fun g29=> ?_)
 have g29:=of_decide_eq_true g29
 refine zp (Aa R R Ii)<|zp (Ab R R Ai R R)<|zp (Fx R R R)<|zq R R R<|zm R R<|?_
 refine XL.dec 34 R (fun g34=> ?_) (fun g34=> ?_)
 refine zm R R<|zp (Ae (s':= .d (.agg (Me.c m))) (Ac (Ad R R Bo R lb)) (by kernel_rfl))<|zm R R<|XL.call1 R R (Q4 _ _ (by assumption) (by omega)) R<|zp (Dr R R R)<|zq R R R<|zm R R<|?_
 refine XL.dec 41 R (fun g41=> ?_) (fun g41=> ?_)
 refine zp (Aa R R Ii)<|zp (Ab R R Ai R R)<|zp (Bb R R R)<|zm R R<|?_
 refine XL.dec 45 R (fun g45=> ?_) (fun g45=> ?_)
 refine zk 5 R<|zq R R R<|zq R R R<|zn<|Aq (by kernel_rfl) R<|zr<|zp (Ae (s':= .d (.agg (Val.c (Ck (b - a))))) (Ac (Ad R R Co R lb)) (by kernel_rfl))<|XL.step R (Bj 7001 R Tryz.underlying106 Dx Do R R (by omega) (by omega))<|zp (Ar R (by conv=>lhs;whnf))<|?_
 refine zn<|zt<|?_
 exact ⟨Eh R (RVS.tmp R R),HSub.cons (by first|exact Ds (by rw [Cx c13];rfl)|exact Fw (Cy c13 (Oc hw hno) hw)|exact Ds (by rw [Cw c13 (Ob ⟨⟨by omega,by omega⟩,by omega,by omega⟩)];rfl)) (HSub.nil)⟩
 refine zm R R<|zp (Ae (s':= .d (.agg (Me.c m))) (Ac (Ad R R Bo R lb)) (by kernel_rfl))<|zm R R<|XL.call1 R R (Q4 _ _ (by assumption) (by omega)) R<|zp (Dr R R R)<|zq R R R<|zq R R R<|zn<|?_
 refine zd R (fun c52=> ?_) (fun c52=> ?_)
 refine zr<|zp (Ae (s':= .d (.agg (Val.c (Ck (b - a))))) (Ac (Ad R R Co R lb)) (by kernel_rfl))<|XL.step R (Bj 7001 R Tryz.underlying106 Dx Do R R (by omega) (by omega))<|zp (Ar R (by conv=>lhs;whnf))<|?_
 refine zn<|zt<|?_
 exact ⟨Eh R (RVS.tmp R R),HSub.cons (by first|exact Ds (by rw [Cx c13];rfl)|exact Fw (Cy c13 (Oc hw hno) hw)|exact Ds (by rw [Cw c13 (Ob ⟨⟨by omega,by omega⟩,by omega,by omega⟩)];rfl)) (HSub.nil)⟩
 refine zi<|zs<|?_
 have hno:¬((E5 (b - a)=0∧(Ck (b - a)).dots≤2)∧m.level a≤stl (m.strong a b)∧(0<(Ck (b - a)).dots∨m.level b≤stl (m.strong a b))):=by omega
 have hw:=Q5 hab c13 hma hmb hno
 have hmc:=Ng hma hw
 obtain ⟨hp1,hp2,hp3⟩:=Gf hp hw
 have hl1:=C3 (m:=m) f _ _ hp1
 have hl2:=C3 (m:=m) f _ _ hp2
 have hN:Dh a b≤2048:=by unfold Dh;omega
 refine Ce 7 [7001] (by kernel_rfl) (by kernel_rfl) (by kernel_rfl) (by kernel_rfl) (by decide)<|yp (Ae (s':= .d (.agg (Me.c m))) (Ac (Ad R R Bo R lb)) (by kernel_rfl))<|ym R R<|ym R R<|ChK.cons R (CStep.callS R ((ih _ _ hp1 hma hmc).lab 7001) R (Ex (by kernel_rfl)))<|yp (Ae (s':= .d (.agg (Me.c m))) (Ac (Ad R R Bo R lb)) (by kernel_rfl))<|?_
 refine ym R R<|ym R R<|?_
 refine ChK.nil ⟨by kernel_rfl, ?_⟩
 refine XL.callS R R ((ih _ _ hp2 hmc hmb).lab 7002) R<|XL.step R (A7 R Jv (.own R) (Src.own R) (by simp only [List.length_map];unfold maxLen;omega) (by simp only [List.length_map];omega))<|zp (Ar R (by conv=>lhs;whnf))<|?_
 refine zn<|zt<|?_
 exact ⟨Eh R (RVS.tmp R R),HSub.cons (by first|exact Ds (by rw [Cx c13];rfl)|exact Fw (Cy c13 (Oc hw hno) hw)|exact Ds (by rw [Cw c13 (Ob ⟨⟨by omega,by omega⟩,by omega,by omega⟩)];rfl)) (HSub.nil)⟩
 refine zk 10 R<|zq R R R<|zn<|A9 (by kernel_rfl) R<|zi<|zs<|?_
 have hno:¬((E5 (b - a)=0∧(Ck (b - a)).dots≤2)∧m.level a≤stl (m.strong a b)∧(0<(Ck (b - a)).dots∨m.level b≤stl (m.strong a b))):=by omega
 have hw:=Q5 hab c13 hma hmb hno
 have hmc:=Ng hma hw
 obtain ⟨hp1,hp2,hp3⟩:=Gf hp hw
 have hl1:=C3 (m:=m) f _ _ hp1
 have hl2:=C3 (m:=m) f _ _ hp2
 have hN:Dh a b≤2048:=by unfold Dh;omega
 refine Ce 7 [7001] (by kernel_rfl) (by kernel_rfl) (by kernel_rfl) (by kernel_rfl) (by decide)<|yp (Ae (s':= .d (.agg (Me.c m))) (Ac (Ad R R Bo R lb)) (by kernel_rfl))<|ym R R<|ym R R<|ChK.cons R (CStep.callS R ((ih _ _ hp1 hma hmc).lab 7001) R (Ex (by kernel_rfl)))<|yp (Ae (s':= .d (.agg (Me.c m))) (Ac (Ad R R Bo R lb)) (by kernel_rfl))<|?_
 refine ym R R<|ym R R<|?_
 refine ChK.nil ⟨by kernel_rfl, ?_⟩
 refine XL.callS R R ((ih _ _ hp2 hmc hmb).lab 7003) R<|XL.step R (A7 R Jv (.own R) (Src.own R) (by simp only [List.length_map];unfold maxLen;omega) (by simp only [List.length_map];omega))<|zp (Ar R (by conv=>lhs;whnf))<|?_
 refine zn<|zt<|?_
 exact ⟨Eh R (RVS.tmp R R),HSub.cons (by first|exact Ds (by rw [Cx c13];rfl)|exact Fw (Cy c13 (Oc hw hno) hw)|exact Ds (by rw [Cw c13 (Ob ⟨⟨by omega,by omega⟩,by omega,by omega⟩)];rfl)) (HSub.nil)⟩
 refine zk 5 R<|zq R R R<|zm R R<|zk 10 R<|zq R R R<|zn<|A9 (by kernel_rfl) R<|zi<|zs<|?_
 have hno:¬((E5 (b - a)=0∧(Ck (b - a)).dots≤2)∧m.level a≤stl (m.strong a b)∧(0<(Ck (b - a)).dots∨m.level b≤stl (m.strong a b))):=by omega
 have hw:=Q5 hab c13 hma hmb hno
 have hmc:=Ng hma hw
 obtain ⟨hp1,hp2,hp3⟩:=Gf hp hw
 have hl1:=C3 (m:=m) f _ _ hp1
 have hl2:=C3 (m:=m) f _ _ hp2
 have hN:Dh a b≤2048:=by unfold Dh;omega
 refine Ce 7 [7001] (by kernel_rfl) (by kernel_rfl) (by kernel_rfl) (by kernel_rfl) (by decide)<|yp (Ae (s':= .d (.agg (Me.c m))) (Ac (Ad R R Bo R lb)) (by kernel_rfl))<|ym R R<|ym R R<|ChK.cons R (CStep.callS R ((ih _ _ hp1 hma hmc).lab 7001) R (Ex (by kernel_rfl)))<|yp (Ae (s':= .d (.agg (Me.c m))) (Ac (Ad R R Bo R lb)) (by kernel_rfl))<|?_
 refine ym R R<|ym R R<|?_
 refine ChK.nil ⟨by kernel_rfl, ?_⟩
 refine XL.callS R R ((ih _ _ hp2 hmc hmb).lab 7004) R<|XL.step R (A7 R Jv (.own R) (Src.own R) (by simp only [List.length_map];unfold maxLen;omega) (by simp only [List.length_map];omega))<|zp (Ar R (by conv=>lhs;whnf))<|?_
 refine zn<|zt<|?_
 exact ⟨Eh R (RVS.tmp R R),HSub.cons (by first|exact Ds (by rw [Cx c13];rfl)|exact Fw (Cy c13 (Oc hw hno) hw)|exact Ds (by rw [Cw c13 (Ob ⟨⟨by omega,by omega⟩,by omega,by omega⟩)];rfl)) (HSub.nil)⟩
 have g29:=of_decide_eq_false g29
 refine zk 3 R<|zq R R R<|zm R R<|zk 5 R<|zq R R R<|zm R R<|zk 10 R<|zq R R R<|zn<|A9 (by kernel_rfl) R<|zi<|zs<|?_
 have hno:¬((E5 (b - a)=0∧(Ck (b - a)).dots≤2)∧m.level a≤stl (m.strong a b)∧(0<(Ck (b - a)).dots∨m.level b≤stl (m.strong a b))):=by omega
 have hw:=Q5 hab c13 hma hmb hno
 have hmc:=Ng hma hw
 obtain ⟨hp1,hp2,hp3⟩:=Gf hp hw
 have hl1:=C3 (m:=m) f _ _ hp1
 have hl2:=C3 (m:=m) f _ _ hp2
 have hN:Dh a b≤2048:=by unfold Dh;omega
 refine Ce 7 [7001] (by kernel_rfl) (by kernel_rfl) (by kernel_rfl) (by kernel_rfl) (by decide)<|yp (Ae (s':= .d (.agg (Me.c m))) (Ac (Ad R R Bo R lb)) (by kernel_rfl))<|ym R R<|ym R R<|ChK.cons R (CStep.callS R ((ih _ _ hp1 hma hmc).lab 7001) R (Ex (by kernel_rfl)))<|yp (Ae (s':= .d (.agg (Me.c m))) (Ac (Ad R R Bo R lb)) (by kernel_rfl))<|?_
 refine ym R R<|ym R R<|?_
 refine ChK.nil ⟨by kernel_rfl, ?_⟩
 refine XL.callS R R ((ih _ _ hp2 hmc hmb).lab 7005) R<|XL.step R (A7 R Jv (.own R) (Src.own R) (by simp only [List.length_map];unfold maxLen;omega) (by simp only [List.length_map];omega))<|zp (Ar R (by conv=>lhs;whnf))<|?_
 refine zn<|zt<|?_
 exact ⟨Eh R (RVS.tmp R R),HSub.cons (by first|exact Ds (by rw [Cx c13];rfl)|exact Fw (Cy c13 (Oc hw hno) hw)|exact Ds (by rw [Cw c13 (Ob ⟨⟨by omega,by omega⟩,by omega,by omega⟩)];rfl)) (HSub.nil)⟩
theorem Wf (m:Me) (h:Mok m):∀(f:Nat) (a b:Int),SpP f a b→a % 7560=0→b % 7560=0→XS Tryz.prog 76 [.agg (Me.c m),dI a,dI b] (.own 7001) [(7001, .row 56 2 ((Eq m f a b).map Val.c))]
 |0,a,b,hp,_,_=>by have:=hp.2.2.2.2;omega
 |f+1,a,b,hp,h1,h2=>Abk m h f (Wf m h f) a b hp h1 h2
theorem T3 (m:Me) (a b:Int) (h:m.splitE a b=0):XS Tryz.prog 76 [.agg (Me.c m),dI a,dI b] (.own 7001) [(7001, .row 56 2 ((m.split a b).map Val.c))]:=by
 obtain ⟨h0,h1,h2,h3,h4,h5,h6,h7⟩:=Ym h
 rw [h7]
 exact Wf m (Anj (by omega)) _ a b ⟨h1,h2,h3,h6,Nat.le_refl _⟩ h4 h5
end Go.Proofs.YtcihalbakenleaaGreat
namespace Go.Proofs.YtcihalbakenleaaGreat
open Go.RowKit
theorem Km (l:List Hd) (h:l.length≤1000):XC Tryz.prog 51 [.sl 5 (l.map Hd.c)] (fun r=>r= .sl 5 ((l.map Hd.tie).map Hd.c)):=by
 refine Ao Ahc Tryz.func51 R R lb<|zr<|za R R<|znr<|za R R<|zn<|zs<|zr<|za R R<|zn<|Ah<|Di 900 3 91 5 R<|?_
 refine Ay (α:=Nat) (fun k=>k≤l.length) (fun k=>mkF [(0, .d (.sl 5 (l.map Hd.c))),(2, .d (.v (.slice none 0 0))),(3, .own 900),(4, .d (dI k))]) (fun k=>mkH [(900, .row 91 5 (((l.take k).map Hd.tie).map Hd.c))]) (fun k=>l.length - k) (0) (Nat.zero_le _) ?_ ?_ ?_
 exact fz ⟨sr,sr,sr,sr,trivial⟩
 exact gz ⟨R,trivial⟩
 intro k hk0
 refine zs<|zr<|zm R R<|zm R R<|XL.len R R R Tryz.underlying48 fun hl7=>zp (As R R R)<|zn<|?_
 refine zd R (fun c8=> ?_) (fun c8=> ?_)
 have hk0a:k<l.length:=by omega
 obtain ⟨x0,hx0⟩:=Au hk0a
 have htl:((l.take k).map Hd.tie).length=k:=by rw [List.length_map,List.length_take];omega
 refine zi<|zs<|Ah<|Ce 13 [] (by kernel_rfl) (by kernel_rfl) (by kernel_rfl) (by kernel_rfl) (by decide)<|yp (Aw R (by conv=>lhs;whnf))<|?_
 refine ym R R<|ym R R<|yp (Am R R R Fl hx0)<|yp (Bq R R Gp)<|yp (Ae (s':= .d (.agg (Pit.c x0.p))) (Av R R E0 lb) (by kernel_rfl))<|ym R R<|ym R R<|yp (Am R R R Fl hx0)<|yp (Bq R R Rm)<|yp (Az R R Ai)<|?_
 refine yp (Ae (s':= .d (.agg [dI x0.p.step,dI x0.p.alter,dI x0.p.oct,dB true,dI x0.sh])) (Ac (A4 R Aa0 H9 R)) (by kernel_rfl))<|ChK.cons R (CStep.slice R Tryz.underlying48 Nf H9 R R (by omega) (by omega))<|?_
 refine ChK.nil ⟨by kernel_rfl, ?_⟩
 refine XL.step R (A7 R Ss (.own R) (Src.sl (by omega)) (by unfold maxLen;simp;omega) (by simp;omega))<|zp (Ar R (by conv=>lhs;whnf))<|?_
 refine zn<|Af (by kernel_rfl)<|zm R R<|zp (Aj R R R (by omega) (by omega))<|za R R<|zn<|?_
 exact Ak (k+1) (by omega) (by omega) (fz ⟨sr,sr,sr,sr,trivial⟩) (gz ⟨Ea (a:=Hd.tie x0) R (by rw [Bp hx0,List.map_append];rfl),trivial⟩)
 have hk0b:k=l.length:=by omega
 have ht:l.take k=l:=by rw [hk0b,List.take_length]
 refine Ap<|zr<|zp (Aw R (by conv=>lhs;whnf))<|?_
 refine zp (Ar R (by conv=>lhs;whnf))<|?_
 exact zn<|zt<|Bg (i:=900) R<|z1 R R (rSl (by rw [ht]))
theorem Afz (l:List Hd) (h:l.length≤1000):XC Tryz.prog 96 [.sl 5 (l.map Hd.c)] (fun r=>r= .sl 5 ((l.map Hd.plain).map Hd.c)):=by
 refine Ao Af9 Tryz.func96 R R lb<|zr<|za R R<|znr<|za R R<|zn<|zs<|zr<|za R R<|zn<|Ah<|Di 900 3 91 5 R<|?_
 refine Ay (α:=Nat) (fun k=>k≤l.length) (fun k=>mkF [(0, .d (.sl 5 (l.map Hd.c))),(2, .d (.v (.slice none 0 0))),(3, .own 900),(4, .d (dI k))]) (fun k=>mkH [(900, .row 91 5 (((l.take k).map Hd.plain).map Hd.c))]) (fun k=>l.length - k) (0) (Nat.zero_le _) ?_ ?_ ?_
 exact fz ⟨sr,sr,sr,sr,trivial⟩
 exact gz ⟨R,trivial⟩
 intro k hk0
 refine zs<|zr<|zm R R<|zm R R<|XL.len R R R Tryz.underlying48 fun hl7=>zp (As R R R)<|zn<|?_
 refine zd R (fun c8=> ?_) (fun c8=> ?_)
 have hk0a:k<l.length:=by omega
 obtain ⟨x0,hx0⟩:=Au hk0a
 have htl:((l.take k).map Hd.plain).length=k:=by rw [List.length_map,List.length_take];omega
 refine zi<|zs<|Ah<|Ce 13 [] (by kernel_rfl) (by kernel_rfl) (by kernel_rfl) (by kernel_rfl) (by decide)<|yp (Aw R (by conv=>lhs;whnf))<|?_
 refine ym R R<|ym R R<|yp (Am R R R Fl hx0)<|yp (Bq R R Gp)<|yp (Ae (s':= .d (.agg (Pit.c x0.p))) (Av R R E0 lb) (by kernel_rfl))<|ym R R<|ym R R<|yp (Am R R R Fl hx0)<|yp (Bq R R Dv)<|yp (Az R R Kv)<|?_
 refine yp (Ae (s':= .d (.agg [dI x0.p.step,dI x0.p.alter,dI x0.p.oct,dB x0.tied,dI 0])) (Ac (A4 R Aa0 H9 R)) (by kernel_rfl))<|ChK.cons R (CStep.slice R Tryz.underlying48 Nf H9 R R (by omega) (by omega))<|?_
 refine ChK.nil ⟨by kernel_rfl, ?_⟩
 refine XL.step R (A7 R Ss (.own R) (Src.sl (by omega)) (by unfold maxLen;simp;omega) (by simp;omega))<|zp (Ar R (by conv=>lhs;whnf))<|?_
 refine zn<|Af (by kernel_rfl)<|zm R R<|zp (Aj R R R (by omega) (by omega))<|za R R<|zn<|?_
 exact Ak (k+1) (by omega) (by omega) (fz ⟨sr,sr,sr,sr,trivial⟩) (gz ⟨Ea (a:=Hd.plain x0) R (by rw [Bp hx0,List.map_append];rfl),trivial⟩)
 have hk0b:k=l.length:=by omega
 have ht:l.take k=l:=by rw [hk0b,List.take_length]
 refine Ap<|zr<|zp (Aw R (by conv=>lhs;whnf))<|?_
 refine zp (Ar R (by conv=>lhs;whnf))<|?_
 exact zn<|zt<|Bg (i:=900) R<|z1 R R (rSl (by rw [ht]))
def Ev.furV (x:Ev):Ev:=⟨0,0,x.kind,x.v,x.heads.map Hd.plain, [],0,0,0, [],x.stem,0⟩
theorem O3 (x:Ev) (h:x.fit):XC Tryz.prog 52 [.agg (Ev.c x)] (fun r=>r= .agg (Ev.c x.furV)):=by
 have h1:=h.1
 refine Ao Ahb Tryz.func52 R R lb<|zr<|XL.step R (At 1 (l:= [.d (dI x.site), .d (dI x.num), .d (dI x.kind), .d (dI x.v.log), .d (dI x.v.dots), .d (.sl 5 (x.heads.map Hd.c)), .d (.sl 5 (x.graces.map Gr.c)), .d (dI x.art), .d (dI x.orn), .d (dI x.dyn), .d (.sl 2 (x.lyr.map Sy.c)), .d (dI x.stem), .d (dI x.beam)]) R R (by kernel_rfl))<|?_
 refine XL.step R (A0 2 (l:= [.d (dI 0), .d (dI 0), .d (dI 0), .d (dI 0), .d (dI 0), .d (.v (.slice none 0 0)), .d (.v (.slice none 0 0)), .d (dI 0), .d (dI 0), .d (dI 0), .d (.v (.slice none 0 0)), .d (dI 0), .d (dI 0)]) R Bw (by kernel_rfl))<|zn<|zs<|Ce 9 [] (by kernel_rfl) (by kernel_rfl) (by kernel_rfl) (by kernel_rfl) (by decide)<|yp (Aa R R B2)<|?_
 refine yp (Ab R R Ai R R)<|yp (Aa R R Cm)<|yp (Ae (s':= .d (.agg (Val.c x.v))) (Ac (Ad R R Co R lb)) (by kernel_rfl))<|yp (Aa R R Bi)<|yp (Ab R R Ct R R)<|ChK.cons R (CStep.call R (Afz _ (by omega)) R)<|yp (Aa R R Et)<|yp (Ab R R Ai R R)<|?_
 refine ChK.nil ⟨by kernel_rfl, ?_⟩
 refine zp (Ae (s':= .d (.agg [dI 0,dI 0,dI x.kind,dI x.v.log,dI x.v.dots, .sl 5 ((x.heads.map Hd.plain).map Hd.c), .v (.slice none 0 0),dI 0,dI 0,dI 0, .v (.slice none 0 0),dI x.stem,dI 0])) (Ac (A4 R Jp Bw R)) (by kernel_rfl))<|?_
 refine XL.step R (Ag (l':= [.d (dI 0), .d (dI 0), .d (dI x.kind), .d (dI x.v.log), .d (dI x.v.dots), .d (.sl 5 ((x.heads.map Hd.plain).map Hd.c)), .d (.v (.slice none 0 0)), .d (dI 0), .d (dI 0), .d (dI 0), .d (.v (.slice none 0 0)), .d (dI x.stem), .d (dI 0)]) R R R R B4 R lb (by kernel_rfl))<|zn<|zt<|?_
 exact F6 R (RV.sub (RV.cells R R R A3 lb R) (.agg (.cons (.same R) (.cons (.same R) (.cons (.same R) (.cons (.same R) (.cons (.same R) (.cons (.same R) (.cons (.nil 5) (.cons (.same R) (.cons (.same R) (.cons (.same R) (.cons (.nil 2) (.cons (.same R) (.cons (.same R) (.nil)))))))))))))))) (R)
theorem O2 (x:Ev) (m:Me) (a b:Int) (h:x.fit) (hs:m.splitE a b=0):XC Tryz.prog 37 [.agg (Ev.c x), .agg (Me.c m), .v (.int .i64 a), .v (.int .i64 b)] (fun r=>r= .sl 13 ((Bs x (m.split a b) false).map Ev.c)):=by
 have hf1:=h.1
 have hsl:=Ie m a b
 refine Ao Ui Tryz.func37 R R lb<|zr<|XL.step R (At 4 (l:= [.d (dI x.site), .d (dI x.num), .d (dI x.kind), .d (dI x.v.log), .d (dI x.v.dots), .d (.sl 5 (x.heads.map Hd.c)), .d (.sl 5 (x.graces.map Gr.c)), .d (dI x.art), .d (dI x.orn), .d (dI x.dyn), .d (.sl 2 (x.lyr.map Sy.c)), .d (dI x.stem), .d (dI x.beam)]) R R (by kernel_rfl))<|?_
 refine XL.step R (At 5 (l:= [.d (dI m.count), .d (dI m.unit), .d (dI m.g0), .d (dI m.g1), .d (dI m.g2), .d (dI m.g3), .d (dI m.g4), .d (dI m.g5)]) R R (by kernel_rfl))<|za R R<|znr<|zp (Ae (s':= .d (.agg (Me.c m))) (Ac (Ad R R Bo R lb)) (by kernel_rfl))<|zm R R<|zm R R<|XL.callS R R ((T3 _ _ _ (by assumption)).lab 7001) R<|zp (Ar R (by conv=>lhs;whnf))<|?_
 refine znr<|XL.freeze (i:=7001) R<|za R R<|zn<|zs<|zr<|za R R<|zn<|Ah<|Di 900 10 60 13 R<|?_
 refine Ay (α:=Nat) (fun k=>k≤(m.split a b).length) (fun k=>mkF [(4, .ptr 4 0 0),(8, .d (.v (.slice none 0 0))),(9, .d (.sl 2 ((m.split a b).map Val.c))),(10, .own 900),(11, .d (dI k))]) (fun k=>mkH [(4, .box ((Ev.c x).map S.d)),(900, .row 60 13 ((Ga x (m.split a b) false k).map Ev.c))]) (fun k=>(m.split a b).length - k) (0) (Nat.zero_le _) ?_ ?_ ?_
 exact fz ⟨sr,sr,sr,sr,sr,trivial⟩
 exact gz ⟨R,R,trivial⟩
 intro k hk0
 refine zs<|zr<|zm R R<|zm R R<|XL.len R R R Tryz.underlying106 fun hl19=>zp (As R R R)<|zn<|?_
 refine zd R (fun c20=> ?_) (fun c20=> ?_)
 have hk0a:k<(m.split a b).length:=by omega
 obtain ⟨x0,hx0⟩:=Au hk0a
 have hnl:(Ga x (m.split a b) false k).length=k:=by rw [Ga,List.length_mapIdx,List.length_take];omega
 have hpl:(x.heads.map Hd.plain).length≤1000:=by rw [List.length_map];exact hf1
 have hpl2:x.furV.heads.length≤1000:=hpl
 refine zi<|zs<|Ah<|zr<|zp (Ae (s':= .d (.agg (Ev.c x))) (Ac (Ad R R A3 R lb)) (by kernel_rfl))<|XL.step R (A0 12 (l:= [.d (dI 0), .d (dI 0), .d (dI 0), .d (dI 0), .d (dI 0), .d (.v (.slice none 0 0)), .d (.v (.slice none 0 0)), .d (dI 0), .d (dI 0), .d (dI 0), .d (.v (.slice none 0 0)), .d (dI 0), .d (dI 0)]) R Bw (by kernel_rfl))<|?_
 refine XL.step R (Ag (l':= [.d (dI x.site), .d (dI x.num), .d (dI x.kind), .d (dI x.v.log), .d (dI x.v.dots), .d (.sl 5 (x.heads.map Hd.c)), .d (.sl 5 (x.graces.map Gr.c)), .d (dI x.art), .d (dI x.orn), .d (dI x.dyn), .d (.sl 2 (x.lyr.map Sy.c)), .d (dI x.stem), .d (dI x.beam)]) R R R R B4 R lb (by kernel_rfl))<|zn<|zs<|zr<|zm R R<|zp (Bb R R R)<|zn<|?_
 refine zd R (fun c25=> ?_) (fun c25=> ?_)
 refine Af (by kernel_rfl)<|zp (Ae (s':= .d (.agg (Ev.c x))) (Ac (Ad R R A3 R lb)) (by kernel_rfl))<|XL.call1 R R (O3 _ (by assumption)) R<|?_
 refine XL.step R (Ag (l':= [.d (dI x.furV.site), .d (dI x.furV.num), .d (dI x.furV.kind), .d (dI x.furV.v.log), .d (dI x.furV.v.dots), .d (.sl 5 (x.furV.heads.map Hd.c)), .d (.sl 5 (x.furV.graces.map Gr.c)), .d (dI x.furV.art), .d (dI x.furV.orn), .d (dI x.furV.dyn), .d (.sl 2 (x.furV.lyr.map Sy.c)), .d (dI x.furV.stem), .d (dI x.furV.beam)]) R R R R B4 R lb (by kernel_rfl))<|zn<|zs<|zr<|?_
 refine zm R R<|zp (Aj R R R (by omega) (by omega))<|zm R R<|XL.len R R R Tryz.underlying106 fun hl31=>zp (As R R R)<|zn<|?_
 refine zd R (fun c32=> ?_) (fun c32=> ?_)
 refine Af (by kernel_rfl)<|zp (Aa R R Bi)<|zp (Ab R R Ct R R)<|XL.call1 R R (Km _ (by omega)) R<|zp (Aa R R Bi)<|?_
 refine XL.step R (Ag (l':= [.d (dI x.furV.site), .d (dI x.furV.num), .d (dI x.furV.kind), .d (dI x.furV.v.log), .d (dI x.furV.v.dots), .d (.sl 5 ((x.furV.heads.map Hd.tie).map Hd.c)), .d (.sl 5 (x.furV.graces.map Gr.c)), .d (dI x.furV.art), .d (dI x.furV.orn), .d (dI x.furV.dyn), .d (.sl 2 (x.furV.lyr.map Sy.c)), .d (dI x.furV.stem), .d (dI x.furV.beam)]) R R R R H4 R lb (by kernel_rfl))<|?_
 refine znr<|zm R R<|zm R R<|zp (Am R R R Lx hx0)<|zp (Ae (s':= .d (.agg (Val.c x0))) (Av R R Co lb) (by kernel_rfl))<|zp (Aa R R Cm)<|?_
 refine XL.step R (Ag (l':= [.d (dI x.furV.site), .d (dI x.furV.num), .d (dI x.furV.kind), .d (dI x0.log), .d (dI x0.dots), .d (.sl 5 ((x.furV.heads.map Hd.tie).map Hd.c)), .d (.sl 5 (x.furV.graces.map Gr.c)), .d (dI x.furV.art), .d (dI x.furV.orn), .d (dI x.furV.dyn), .d (.sl 2 (x.furV.lyr.map Sy.c)), .d (dI x.furV.stem), .d (dI x.furV.beam)]) R R R R Dx R lb (by kernel_rfl))<|zng<|?_
 refine zp (Aw R (by conv=>lhs;whnf))<|?_
 refine zp (Ae (s':= .d (.agg [dI x.furV.site,dI x.furV.num,dI x.furV.kind,dI x0.log,dI x0.dots, .sl 5 ((x.furV.heads.map Hd.tie).map Hd.c), .sl 5 (x.furV.graces.map Gr.c),dI x.furV.art,dI x.furV.orn,dI x.furV.dyn, .sl 2 (x.furV.lyr.map Sy.c),dI x.furV.stem,dI x.furV.beam])) (Ac (Ad R R A3 R lb)) (by kernel_rfl))<|?_
 refine XL.step R (Bj 44 R Tryz.underlying22 B4 Bw R R (by omega) (by omega))<|XL.step R (A7 R D3 (.own R) (Src.own R) (by unfold maxLen;simp;omega) (by simp;omega))<|zp (Ar R (by conv=>lhs;whnf))<|?_
 refine zn<|Af (by kernel_rfl)<|zm R R<|zp (Aj R R R (by omega) (by omega))<|za R R<|zn<|?_
 exact Ak (k+1) (by omega) (by omega) (fz ⟨sr,sr,sr,sr,sr,trivial⟩) (gz ⟨R,Ea R (Ef hx0 (Wp (.inl c25) c32)),trivial⟩)
 refine zi<|zr<|zm R R<|zm R R<|zp (Am R R R Lx hx0)<|zp (Ae (s':= .d (.agg (Val.c x0))) (Av R R Co lb) (by kernel_rfl))<|zp (Aa R R Cm)<|?_
 refine XL.step R (Ag (l':= [.d (dI x.furV.site), .d (dI x.furV.num), .d (dI x.furV.kind), .d (dI x0.log), .d (dI x0.dots), .d (.sl 5 (x.furV.heads.map Hd.c)), .d (.sl 5 (x.furV.graces.map Gr.c)), .d (dI x.furV.art), .d (dI x.furV.orn), .d (dI x.furV.dyn), .d (.sl 2 (x.furV.lyr.map Sy.c)), .d (dI x.furV.stem), .d (dI x.furV.beam)]) R R R R Dx R lb (by kernel_rfl))<|zng<|?_
 refine zp (Aw R (by conv=>lhs;whnf))<|?_
 refine zp (Ae (s':= .d (.agg [dI x.furV.site,dI x.furV.num,dI x.furV.kind,dI x0.log,dI x0.dots, .sl 5 (x.furV.heads.map Hd.c), .sl 5 (x.furV.graces.map Gr.c),dI x.furV.art,dI x.furV.orn,dI x.furV.dyn, .sl 2 (x.furV.lyr.map Sy.c),dI x.furV.stem,dI x.furV.beam])) (Ac (Ad R R A3 R lb)) (by kernel_rfl))<|?_
 refine XL.step R (Bj 44 R Tryz.underlying22 B4 Bw R R (by omega) (by omega))<|XL.step R (A7 R D3 (.own R) (Src.own R) (by unfold maxLen;simp;omega) (by simp;omega))<|zp (Ar R (by conv=>lhs;whnf))<|?_
 refine zn<|Af (by kernel_rfl)<|zm R R<|zp (Aj R R R (by omega) (by omega))<|za R R<|zn<|?_
 exact Ak (k+1) (by omega) (by omega) (fz ⟨sr,sr,sr,sr,sr,trivial⟩) (gz ⟨R,Ea R (Ef hx0 (Wo (.inl c25) c32)),trivial⟩)
 refine zi<|zs<|zr<|zm R R<|zp (Aj R R R (by omega) (by omega))<|zm R R<|XL.len R R R Tryz.underlying106 fun hl31=>zp (As R R R)<|zn<|?_
 refine zd R (fun c32=> ?_) (fun c32=> ?_)
 refine Af (by kernel_rfl)<|zp (Aa R R Bi)<|zp (Ab R R Ct R R)<|XL.call1 R R (Km _ (by omega)) R<|zp (Aa R R Bi)<|?_
 refine XL.step R (Ag (l':= [.d (dI x.site), .d (dI x.num), .d (dI x.kind), .d (dI x.v.log), .d (dI x.v.dots), .d (.sl 5 ((x.heads.map Hd.tie).map Hd.c)), .d (.sl 5 (x.graces.map Gr.c)), .d (dI x.art), .d (dI x.orn), .d (dI x.dyn), .d (.sl 2 (x.lyr.map Sy.c)), .d (dI x.stem), .d (dI x.beam)]) R R R R H4 R lb (by kernel_rfl))<|znr<|zm R R<|zm R R<|zp (Am R R R Lx hx0)<|?_
 refine zp (Ae (s':= .d (.agg (Val.c x0))) (Av R R Co lb) (by kernel_rfl))<|zp (Aa R R Cm)<|?_
 refine XL.step R (Ag (l':= [.d (dI x.site), .d (dI x.num), .d (dI x.kind), .d (dI x0.log), .d (dI x0.dots), .d (.sl 5 ((x.heads.map Hd.tie).map Hd.c)), .d (.sl 5 (x.graces.map Gr.c)), .d (dI x.art), .d (dI x.orn), .d (dI x.dyn), .d (.sl 2 (x.lyr.map Sy.c)), .d (dI x.stem), .d (dI x.beam)]) R R R R Dx R lb (by kernel_rfl))<|zng<|zp (Aw R (by conv=>lhs;whnf))<|?_
 refine zp (Ae (s':= .d (.agg [dI x.site,dI x.num,dI x.kind,dI x0.log,dI x0.dots, .sl 5 ((x.heads.map Hd.tie).map Hd.c), .sl 5 (x.graces.map Gr.c),dI x.art,dI x.orn,dI x.dyn, .sl 2 (x.lyr.map Sy.c),dI x.stem,dI x.beam])) (Ac (Ad R R A3 R lb)) (by kernel_rfl))<|XL.step R (Bj 44 R Tryz.underlying22 B4 Bw R R (by omega) (by omega))<|?_
 refine XL.step R (A7 R D3 (.own R) (Src.own R) (by unfold maxLen;simp;omega) (by simp;omega))<|zp (Ar R (by conv=>lhs;whnf))<|?_
 refine zn<|Af (by kernel_rfl)<|zm R R<|zp (Aj R R R (by omega) (by omega))<|za R R<|zn<|?_
 exact Ak (k+1) (by omega) (by omega) (fz ⟨sr,sr,sr,sr,sr,trivial⟩) (gz ⟨R,Ea R (Ef hx0 (Ab3 c25 R c32)),trivial⟩)
 refine zi<|zr<|zm R R<|zm R R<|zp (Am R R R Lx hx0)<|zp (Ae (s':= .d (.agg (Val.c x0))) (Av R R Co lb) (by kernel_rfl))<|zp (Aa R R Cm)<|?_
 refine XL.step R (Ag (l':= [.d (dI x.site), .d (dI x.num), .d (dI x.kind), .d (dI x0.log), .d (dI x0.dots), .d (.sl 5 (x.heads.map Hd.c)), .d (.sl 5 (x.graces.map Gr.c)), .d (dI x.art), .d (dI x.orn), .d (dI x.dyn), .d (.sl 2 (x.lyr.map Sy.c)), .d (dI x.stem), .d (dI x.beam)]) R R R R Dx R lb (by kernel_rfl))<|zng<|zp (Aw R (by conv=>lhs;whnf))<|?_
 refine zp (Ae (s':= .d (.agg [dI x.site,dI x.num,dI x.kind,dI x0.log,dI x0.dots, .sl 5 (x.heads.map Hd.c), .sl 5 (x.graces.map Gr.c),dI x.art,dI x.orn,dI x.dyn, .sl 2 (x.lyr.map Sy.c),dI x.stem,dI x.beam])) (Ac (Ad R R A3 R lb)) (by kernel_rfl))<|XL.step R (Bj 44 R Tryz.underlying22 B4 Bw R R (by omega) (by omega))<|?_
 refine XL.step R (A7 R D3 (.own R) (Src.own R) (by unfold maxLen;simp;omega) (by simp;omega))<|zp (Ar R (by conv=>lhs;whnf))<|?_
 refine zn<|Af (by kernel_rfl)<|zm R R<|zp (Aj R R R (by omega) (by omega))<|za R R<|zn<|?_
 exact Ak (k+1) (by omega) (by omega) (fz ⟨sr,sr,sr,sr,sr,trivial⟩) (gz ⟨R,Ea R (Ef hx0 (Ab2 c25 R c32)),trivial⟩)
 have hk0b:k=(m.split a b).length:=by omega
 have ht:Ga x (m.split a b) false k=Bs x (m.split a b) false:=by rw [Ga,hk0b,List.take_length];rfl
 refine Ap<|zr<|zp (Aw R (by conv=>lhs;whnf))<|?_
 refine zp (Ar R (by conv=>lhs;whnf))<|?_
 exact zn<|zt<|Bg (i:=900) R<|z1 R R (rSl ht)
def evV (l:List Ev):Vo:=⟨l, []⟩
theorem Amf (m:Me) (a b:Int):(m.err≠0→m.splitE a b=m.err)∧(m.err=0→(a<0∨b<a∨4398046511104<b)→m.splitE a b=2)∧(m.err=0→¬(a<0∨b<a∨4398046511104<b)→(a % 7560≠0∨b % 7560≠0)→m.splitE a b=16)∧(m.err=0→¬(a<0∨b<a∨4398046511104<b)→¬(a % 7560≠0∨b % 7560≠0)→15482880<b - a→m.splitE a b=5)∧(m.err=0→¬(a<0∨b<a∨4398046511104<b)→¬(a % 7560≠0∨b % 7560≠0)→¬15482880<b - a→m.splitE a b=0):=
 ⟨fun h=>(Qw h).1,fun h h2=>(Qv (fun k=>k h) h2).1,fun h h2 h3=>(Qu (fun k=>k h) h2 h3).1,fun h h2 h3 h4=>(Qt (fun k=>k h) h2 h3 h4).1,fun h h2 h3 h4=>(Qr (fun k=>k h) h2 h3 h4).1⟩
end Go.Proofs.YtcihalbakenleaaGreat
namespace Go.Proofs.YtcihalbakenleaaGreat
open Go.RowKit
def Rh (l:List Tp) (n:Int):Bool:=l.any fun t=>decide (t.has n)
theorem Acd {l:List Tp} {k:Nat} {t:Tp} {n:Int} (h:l[k]? =some t) (ht:t.has n):true=Rh l n:=by
 symm;rw [Rh,List.any_eq_true];exact ⟨t,List.mem_of_getElem? h,by simpa using ht⟩
theorem Atm {l:List Tp} {n:Int} (h:∀t∈l,¬t.has n):false=Rh l n:=by
 symm;rw [Rh,List.any_eq_false];exact fun t ht=>by simpa using h t ht
theorem Anx {l:List Tp} {n:Int}:Rh l n=true↔hits l n≠0:=by
 rw [Rh,List.any_eq_true,hits, ←List.countP_eq_length_filter, ←Nat.pos_iff_ne_zero,List.countP_pos_iff]
def Jj (a c:Int) (t:Tp):Tp:=if a≤t.first then ⟨t.first+c,t.count,t.actual,t.normal⟩ else if t.has a then ⟨t.first,t.count+c,t.actual,t.normal⟩ else t
theorem Anw {a c:Int} {t:Tp} (h:a≤t.first):Jj a c t=⟨t.first+c,t.count,t.actual,t.normal⟩:=by rw [Jj,if_pos h]
theorem Avl {a c:Int} {t:Tp} (h:¬a≤t.first) (h2:t.has a):Jj a c t=⟨t.first,t.count+c,t.actual,t.normal⟩:=by rw [Jj,if_neg h,if_pos h2]
theorem Anv {a c:Int} {t:Tp} (h:¬a≤t.first) (h2:¬t.has a):Jj a c t=t:=by rw [Jj,if_neg h,if_neg h2]
theorem So {a c:Int} {l:List Tp} {k:Nat} {t u:Tp} (h:l[k]? =some t) (hu:Jj a c t=u):(l.take (k+1)).map (Jj a c)=(l.take k).map (Jj a c)++ [u]:=by
 rw [Bp h,List.map_append, ←hu];rfl
theorem Asp (l:List Tp) (n:Int) (hl:∀t∈l,t.ok):XC Tryz.prog 50 [.sl 4 (l.map Tp.c), .v (.int .i64 n)] (fun r=>r=dB (Rh l n)):=by
 refine Ao Ahd Tryz.func50 R R lb<|zr<|za R R<|zn<|zs<|zr<|za R R<|zn<|Ah<|?_
 refine Ay (α:=Nat) (fun k=>k≤l.length∧∀t∈l.take k,¬t.has n) (fun k=>mkF [(0, .d (.sl 4 (l.map Tp.c))),(1, .d (dI n)),(5, .d (dI k))]) (fun k=>mkH []) (fun k=>l.length - k) (0) (⟨Nat.zero_le _,fun t ht=>(by cases ht)⟩) ?_ ?_ ?_
 exact fz ⟨sr,sr,sr,trivial⟩
 exact HSub.nil
 intro k hk0
 obtain ⟨hk,hall⟩:=hk0
 refine zs<|zr<|zm R R<|zm R R<|XL.len R R R Tryz.underlying23 fun hl8=>zp (As R R R)<|zn<|?_
 refine zd R (fun c9=> ?_) (fun c9=> ?_)
 have hk0a:k<l.length:=by omega
 obtain ⟨x0,hx0⟩:=Au hk0a
 have hok:=hl x0 (List.mem_of_getElem? hx0)
 simp only [Tp.ok] at hok
 refine zi<|zs<|Ah<|zs<|?_
 by_cases q18:(x0.first:Int)≤(n:Int)
 refine Bm [] (by kernel_rfl) (by kernel_rfl) (by kernel_rfl) (by decide)<|ym R R<|ym R R<|ym R R<|yp (Am R R R D9 hx0)<|yp (Bq R R Bv)<|yp (Az R R Ai)<|yp (Dz (Dr R R R) (q18))<|ym R R<|ym R R<|ym R R<|ym R R<|yp (Am R R R D9 hx0)<|yp (Bq R R Bv)<|?_
 refine yp (Az R R Ai)<|ym R R<|ym R R<|yp (Am R R R D9 hx0)<|yp (Bq R R Dn)<|yp (Az R R Ai)<|yp (Aj R R R (by omega) (by omega))<|yp (As R R R)<|yp (Ba R R (by conv=>lhs;whnf))<|?_
 refine ChK.nil ⟨by kernel_rfl, ?_⟩
 refine zd R (fun c33=> ?_) (fun c33=> ?_)
 exact zr<|za R R<|zn<|zt<|z1 R R (rB (Acd hx0 (by unfold Tp.has;omega)))
 refine zi<|Af (by kernel_rfl)<|zm R R<|zp (Aj R R R (by omega) (by omega))<|za R R<|zn<|?_
 exact Ak (k+1) (⟨by omega,fun t ht=>by rw [Bp hx0] at ht;rcases List.mem_append.1 ht with q|q;(· exact hall t q);(· rw [List.mem_singleton.1 q];unfold Tp.has;omega)⟩) (by omega) (fz ⟨sr,sr,sr,trivial⟩) (HSub.nil)
 refine Bm [] (by kernel_rfl) (by kernel_rfl) (by kernel_rfl) (by decide)<|ym R R<|ym R R<|ym R R<|yp (Am R R R D9 hx0)<|yp (Bq R R Bv)<|yp (Az R R Ai)<|yp (F7 (Dr R R R) (q18))<|ym R R<|ChK.skip R<|ChK.skip R<|ChK.skip R<|ChK.skip R<|ChK.skip R<|?_
 refine ChK.skip R<|ChK.skip R<|ChK.skip R<|ChK.skip R<|ChK.skip R<|ChK.skip R<|ChK.skip R<|ChK.skip R<|yp (Ba R R (by conv=>lhs;whnf))<|?_
 refine ChK.nil ⟨by kernel_rfl, ?_⟩
 refine A9 (by kernel_rfl) R<|zi<|Af (by kernel_rfl)<|zm R R<|zp (Aj R R R (by omega) (by omega))<|za R R<|zn<|?_
 exact Ak (k+1) (⟨by omega,fun t ht=>by rw [Bp hx0] at ht;rcases List.mem_append.1 ht with q|q;(· exact hall t q);(· rw [List.mem_singleton.1 q];unfold Tp.has;omega)⟩) (by omega) (fz ⟨sr,sr,sr,trivial⟩) (HSub.nil)
 have hk0b:k=l.length:=by omega
 have ht:l.take k=l:=by rw [hk0b,List.take_length]
 rw [ht] at hall
 exact Ap<|zr<|za R R<|zn<|zt<|z1 R R (rB (Atm hall))
theorem Abg (l:List Tp) (h:l.length≤1000):XC Tryz.prog 53 [.sl 4 (l.map Tp.c)] (fun r=>r= .sl 4 (l.map Tp.c)):=by
 refine Ao Aha Tryz.func53 R R lb<|zr<|za R R<|znr<|za R R<|zn<|zs<|zr<|za R R<|zn<|Ah<|Di 900 3 102 4 R<|?_
 refine Ay (α:=Nat) (fun k=>k≤l.length) (fun k=>mkF [(0, .d (.sl 4 (l.map Tp.c))),(2, .d (.v (.slice none 0 0))),(3, .own 900),(4, .d (dI k))]) (fun k=>mkH [(900, .row 102 4 ((l.take k).map Tp.c))]) (fun k=>l.length - k) (0) (Nat.zero_le _) ?_ ?_ ?_
 exact fz ⟨sr,sr,sr,sr,trivial⟩
 exact gz ⟨R,trivial⟩
 intro k hk0
 refine zs<|zr<|zm R R<|zm R R<|XL.len R R R Tryz.underlying98 fun hl7=>zp (As R R R)<|zn<|?_
 refine zd R (fun c8=> ?_) (fun c8=> ?_)
 have hk0a:k<l.length:=by omega
 obtain ⟨x0,hx0⟩:=Au hk0a
 have htl:(l.take k).length=k:=by rw [List.length_take];omega
 refine zi<|zs<|Ah<|Ce 23 [] (by kernel_rfl) (by kernel_rfl) (by kernel_rfl) (by kernel_rfl) (by decide)<|yp (Aw R (by conv=>lhs;whnf))<|?_
 refine ym R R<|ym R R<|yp (Am R R R Iq hx0)<|yp (Bq R R Er)<|yp (Az R R Ai)<|ym R R<|ym R R<|yp (Am R R R Iq hx0)<|yp (Bq R R G3)<|yp (Az R R Ai)<|ym R R<|ym R R<|yp (Am R R R Iq hx0)<|yp (Bq R R Li)<|?_
 refine yp (Az R R Ai)<|ym R R<|ym R R<|yp (Am R R R Iq hx0)<|yp (Bq R R M2)<|yp (Az R R Ai)<|yp (Ae (s':= .d (.agg [dI x0.first,dI x0.count,dI x0.actual,dI x0.normal])) (Ac (A4 R Ask Db R)) (by kernel_rfl))<|ChK.cons R (CStep.slice R Tryz.underlying23 Ej Db R R (by omega) (by omega))<|?_
 refine ChK.nil ⟨by kernel_rfl, ?_⟩
 refine XL.step R (A7 R G4 (.own R) (Src.sl (by omega)) (by unfold maxLen;simp;omega) (by simp;omega))<|zp (Ar R (by conv=>lhs;whnf))<|?_
 refine zn<|Af (by kernel_rfl)<|zm R R<|zp (Aj R R R (by omega) (by omega))<|za R R<|zn<|?_
 exact Ak (k+1) (by omega) (by omega) (fz ⟨sr,sr,sr,sr,trivial⟩) (gz ⟨Ea R (Bp hx0),trivial⟩)
 have hk0b:k=l.length:=by omega
 have ht:l.take k=l:=by rw [hk0b,List.take_length]
 refine Ap<|zr<|zp (Aw R (by conv=>lhs;whnf))<|?_
 refine zp (Ar R (by conv=>lhs;whnf))<|?_
 exact zn<|zt<|Bg (i:=900) R<|z1 R R (rSl (by rw [ht]))
theorem We (l:List Tp) (a c:Int) (hl:∀t∈l,t.ok) (h:l.length≤1000) (hc: -1≤c∧c≤100000):XC Tryz.prog 54 [.sl 4 (l.map Tp.c), .v (.int .i64 a), .v (.int .i64 c)] (fun r=>r= .sl 4 ((l.map (Jj a c)).map Tp.c)):=by
 refine Ao Ag9 Tryz.func54 R R lb<|zr<|za R R<|znr<|za R R<|zn<|zs<|zr<|za R R<|zn<|Ah<|Di 900 7 135 4 R<|?_
 refine Ay (α:=Nat) (fun k=>k≤l.length) (fun k=>mkF [(0, .d (.sl 4 (l.map Tp.c))),(1, .d (dI a)),(2, .d (dI c)),(6, .d (.v (.slice none 0 0))),(7, .own 900),(8, .d (dI k))]) (fun k=>mkH [(900, .row 135 4 (((l.take k).map (Jj a c)).map Tp.c))]) (fun k=>l.length - k) (0) (Nat.zero_le _) ?_ ?_ ?_
 exact fz ⟨sr,sr,sr,sr,sr,sr,trivial⟩
 exact gz ⟨R,trivial⟩
 intro k hk0
 refine zs<|zr<|zm R R<|zm R R<|XL.len R R R Tryz.underlying98 fun hl12=>zp (As R R R)<|zn<|?_
 refine zd R (fun c13=> ?_) (fun c13=> ?_)
 have hk0a:k<l.length:=by omega
 obtain ⟨x0,hx0⟩:=Au hk0a
 have htl:((l.take k).map (Jj a c)).length=k:=by rw [List.length_map,List.length_take];omega
 have hok:=hl x0 (List.mem_of_getElem? hx0)
 have hok2:=hok
 simp only [Tp.ok] at hok2
 refine zi<|zs<|Ah<|zr<|zm R R<|zm R R<|zp (Am R R R Iq hx0)<|zp (Ae (s':= .d (.agg (Tp.c x0))) (Av R R Fd lb) (by kernel_rfl))<|XL.step R (A0 9 (l:= [.d (dI 0), .d (dI 0), .d (dI 0), .d (dI 0)]) R K3 (by kernel_rfl))<|?_
 refine XL.step R (Ag (l':= [.d (dI x0.first), .d (dI x0.count), .d (dI x0.actual), .d (dI x0.normal)]) R R R R P8 R lb (by kernel_rfl))<|zn<|zs<|zr<|zp (Aa R R Er)<|zp (Ab R R Ai R R)<|zm R R<|zp (Dr R R R)<|zn<|?_
 refine zd R (fun c23=> ?_) (fun c23=> ?_)
 refine Af (by kernel_rfl)<|zp (Aa R R Er)<|zp (Ab R R Ai R R)<|zm R R<|zp (Aj R R R (by omega) (by omega))<|zp (Aa R R Er)<|XL.step R (Ag (l':= [.d (dI (x0.first+c)), .d (dI x0.count), .d (dI x0.actual), .d (dI x0.normal)]) R R R R Cs R lb (by kernel_rfl))<|zng<|zp (Aw R (by conv=>lhs;whnf))<|?_
 refine zp (Ae (s':= .d (.agg [dI (x0.first+c),dI x0.count,dI x0.actual,dI x0.normal])) (Ac (Ad R R Fd R lb)) (by kernel_rfl))<|XL.step R (Bj 39 R Tryz.underlying98 P8 K3 R R (by omega) (by omega))<|XL.step R (A7 R Xa (.own R) (Src.own R) (by unfold maxLen;simp;omega) (by simp;omega))<|zp (Ar R (by conv=>lhs;whnf))<|?_
 refine zn<|Af (by kernel_rfl)<|zm R R<|zp (Aj R R R (by omega) (by omega))<|za R R<|zn<|?_
 exact Ak (k+1) (by omega) (by omega) (fz ⟨sr,sr,sr,sr,sr,sr,trivial⟩) (gz ⟨Ea R (So hx0 (Anw (by omega))),trivial⟩)
 refine zr<|zp (Ae (s':= .d (.agg (Tp.c x0))) (Ac (Ad R R Fd R lb)) (by kernel_rfl))<|zm R R<|XL.call1 R R (Oa _ _ (by assumption)) R<|zn<|?_
 refine zd R (fun c31=> ?_) (fun c31=> ?_)
 refine Af (by kernel_rfl)<|zp (Aa R R G3)<|zp (Ab R R Ai R R)<|zm R R<|zp (Aj R R R (by omega) (by omega))<|zp (Aa R R G3)<|XL.step R (Ag (l':= [.d (dI x0.first), .d (dI (x0.count+c)), .d (dI x0.actual), .d (dI x0.normal)]) R R R R Cs R lb (by kernel_rfl))<|zng<|zp (Aw R (by conv=>lhs;whnf))<|?_
 refine zp (Ae (s':= .d (.agg [dI x0.first,dI (x0.count+c),dI x0.actual,dI x0.normal])) (Ac (Ad R R Fd R lb)) (by kernel_rfl))<|XL.step R (Bj 39 R Tryz.underlying98 P8 K3 R R (by omega) (by omega))<|XL.step R (A7 R Xa (.own R) (Src.own R) (by unfold maxLen;simp;omega) (by simp;omega))<|zp (Ar R (by conv=>lhs;whnf))<|?_
 refine zn<|Af (by kernel_rfl)<|zm R R<|zp (Aj R R R (by omega) (by omega))<|za R R<|zn<|?_
 exact Ak (k+1) (by omega) (by omega) (fz ⟨sr,sr,sr,sr,sr,sr,trivial⟩) (gz ⟨Ea R (So hx0 (Avl (by omega) c31)),trivial⟩)
 refine zi<|Af (by kernel_rfl)<|zp (Aw R (by conv=>lhs;whnf))<|?_
 refine zp (Ae (s':= .d (.agg (Tp.c x0))) (Ac (Ad R R Fd R lb)) (by kernel_rfl))<|XL.step R (Bj 39 R Tryz.underlying98 P8 K3 R R (by omega) (by omega))<|XL.step R (A7 R Xa (.own R) (Src.own R) (by unfold maxLen;simp;omega) (by simp;omega))<|zp (Ar R (by conv=>lhs;whnf))<|?_
 refine zn<|Af (by kernel_rfl)<|zm R R<|zp (Aj R R R (by omega) (by omega))<|za R R<|zn<|?_
 exact Ak (k+1) (by omega) (by omega) (fz ⟨sr,sr,sr,sr,sr,sr,trivial⟩) (gz ⟨Ea R (So hx0 (Anv (by omega) c31)),trivial⟩)
 have hk0b:k=l.length:=by omega
 have ht:l.take k=l:=by rw [hk0b,List.take_length]
 refine Ap<|zr<|zp (Aw R (by conv=>lhs;whnf))<|?_
 refine zp (Ar R (by conv=>lhs;whnf))<|?_
 exact zn<|zt<|Bg (i:=900) R<|z1 R R (rSl (by rw [ht]))
theorem Yw (x:Ev) (m:Me) (a b:Int) (h:x.fit) (hs:m.splitE a b=0):XS Tryz.prog 37 [.agg (Ev.c x), .agg (Me.c m), .v (.int .i64 a), .v (.int .i64 b)] (.own 900) [(900, .row 60 13 ((Bs x (m.split a b) false).map Ev.c))]:=by
 have hf1:=h.1
 have hsl:=Ie m a b
 refine Ir Ui Tryz.func37 R R lb (by kernel_rfl) (by kernel_rfl)<|zr<|XL.step R (At 4 (l:= [.d (dI x.site), .d (dI x.num), .d (dI x.kind), .d (dI x.v.log), .d (dI x.v.dots), .d (.sl 5 (x.heads.map Hd.c)), .d (.sl 5 (x.graces.map Gr.c)), .d (dI x.art), .d (dI x.orn), .d (dI x.dyn), .d (.sl 2 (x.lyr.map Sy.c)), .d (dI x.stem), .d (dI x.beam)]) R R (by kernel_rfl))<|?_
 refine XL.step R (At 5 (l:= [.d (dI m.count), .d (dI m.unit), .d (dI m.g0), .d (dI m.g1), .d (dI m.g2), .d (dI m.g3), .d (dI m.g4), .d (dI m.g5)]) R R (by kernel_rfl))<|za R R<|znr<|zp (Ae (s':= .d (.agg (Me.c m))) (Ac (Ad R R Bo R lb)) (by kernel_rfl))<|zm R R<|zm R R<|XL.callS R R ((T3 _ _ _ (by assumption)).lab 7001) R<|zp (Ar R (by conv=>lhs;whnf))<|?_
 refine znr<|XL.freeze (i:=7001) R<|za R R<|zn<|zs<|zr<|za R R<|zn<|Ah<|Di 900 10 60 13 R<|?_
 refine Ay (α:=Nat) (fun k=>k≤(m.split a b).length) (fun k=>mkF [(4, .ptr 4 0 0),(8, .d (.v (.slice none 0 0))),(9, .d (.sl 2 ((m.split a b).map Val.c))),(10, .own 900),(11, .d (dI k))]) (fun k=>mkH [(4, .box ((Ev.c x).map S.d)),(900, .row 60 13 ((Ga x (m.split a b) false k).map Ev.c))]) (fun k=>(m.split a b).length - k) (0) (Nat.zero_le _) ?_ ?_ ?_
 exact fz ⟨sr,sr,sr,sr,sr,trivial⟩
 exact gz ⟨R,R,trivial⟩
 intro k hk0
 refine zs<|zr<|zm R R<|zm R R<|XL.len R R R Tryz.underlying106 fun hl19=>zp (As R R R)<|zn<|?_
 refine zd R (fun c20=> ?_) (fun c20=> ?_)
 have hk0a:k<(m.split a b).length:=by omega
 obtain ⟨x0,hx0⟩:=Au hk0a
 have hnl:(Ga x (m.split a b) false k).length=k:=by rw [Ga,List.length_mapIdx,List.length_take];omega
 have hpl:(x.heads.map Hd.plain).length≤1000:=by rw [List.length_map];exact hf1
 have hpl2:x.furV.heads.length≤1000:=hpl
 refine zi<|zs<|Ah<|zr<|zp (Ae (s':= .d (.agg (Ev.c x))) (Ac (Ad R R A3 R lb)) (by kernel_rfl))<|XL.step R (A0 12 (l:= [.d (dI 0), .d (dI 0), .d (dI 0), .d (dI 0), .d (dI 0), .d (.v (.slice none 0 0)), .d (.v (.slice none 0 0)), .d (dI 0), .d (dI 0), .d (dI 0), .d (.v (.slice none 0 0)), .d (dI 0), .d (dI 0)]) R Bw (by kernel_rfl))<|?_
 refine XL.step R (Ag (l':= [.d (dI x.site), .d (dI x.num), .d (dI x.kind), .d (dI x.v.log), .d (dI x.v.dots), .d (.sl 5 (x.heads.map Hd.c)), .d (.sl 5 (x.graces.map Gr.c)), .d (dI x.art), .d (dI x.orn), .d (dI x.dyn), .d (.sl 2 (x.lyr.map Sy.c)), .d (dI x.stem), .d (dI x.beam)]) R R R R B4 R lb (by kernel_rfl))<|zn<|zs<|zr<|zm R R<|zp (Bb R R R)<|zn<|?_
 refine zd R (fun c25=> ?_) (fun c25=> ?_)
 refine Af (by kernel_rfl)<|zp (Ae (s':= .d (.agg (Ev.c x))) (Ac (Ad R R A3 R lb)) (by kernel_rfl))<|XL.call1 R R (O3 _ (by assumption)) R<|?_
 refine XL.step R (Ag (l':= [.d (dI x.furV.site), .d (dI x.furV.num), .d (dI x.furV.kind), .d (dI x.furV.v.log), .d (dI x.furV.v.dots), .d (.sl 5 (x.furV.heads.map Hd.c)), .d (.sl 5 (x.furV.graces.map Gr.c)), .d (dI x.furV.art), .d (dI x.furV.orn), .d (dI x.furV.dyn), .d (.sl 2 (x.furV.lyr.map Sy.c)), .d (dI x.furV.stem), .d (dI x.furV.beam)]) R R R R B4 R lb (by kernel_rfl))<|zn<|zs<|zr<|?_
 refine zm R R<|zp (Aj R R R (by omega) (by omega))<|zm R R<|XL.len R R R Tryz.underlying106 fun hl31=>zp (As R R R)<|zn<|?_
 refine zd R (fun c32=> ?_) (fun c32=> ?_)
 refine Af (by kernel_rfl)<|zp (Aa R R Bi)<|zp (Ab R R Ct R R)<|XL.call1 R R (Km _ (by omega)) R<|zp (Aa R R Bi)<|?_
 refine XL.step R (Ag (l':= [.d (dI x.furV.site), .d (dI x.furV.num), .d (dI x.furV.kind), .d (dI x.furV.v.log), .d (dI x.furV.v.dots), .d (.sl 5 ((x.furV.heads.map Hd.tie).map Hd.c)), .d (.sl 5 (x.furV.graces.map Gr.c)), .d (dI x.furV.art), .d (dI x.furV.orn), .d (dI x.furV.dyn), .d (.sl 2 (x.furV.lyr.map Sy.c)), .d (dI x.furV.stem), .d (dI x.furV.beam)]) R R R R H4 R lb (by kernel_rfl))<|?_
 refine znr<|zm R R<|zm R R<|zp (Am R R R Lx hx0)<|zp (Ae (s':= .d (.agg (Val.c x0))) (Av R R Co lb) (by kernel_rfl))<|zp (Aa R R Cm)<|?_
 refine XL.step R (Ag (l':= [.d (dI x.furV.site), .d (dI x.furV.num), .d (dI x.furV.kind), .d (dI x0.log), .d (dI x0.dots), .d (.sl 5 ((x.furV.heads.map Hd.tie).map Hd.c)), .d (.sl 5 (x.furV.graces.map Gr.c)), .d (dI x.furV.art), .d (dI x.furV.orn), .d (dI x.furV.dyn), .d (.sl 2 (x.furV.lyr.map Sy.c)), .d (dI x.furV.stem), .d (dI x.furV.beam)]) R R R R Dx R lb (by kernel_rfl))<|zng<|?_
 refine zp (Aw R (by conv=>lhs;whnf))<|?_
 refine zp (Ae (s':= .d (.agg [dI x.furV.site,dI x.furV.num,dI x.furV.kind,dI x0.log,dI x0.dots, .sl 5 ((x.furV.heads.map Hd.tie).map Hd.c), .sl 5 (x.furV.graces.map Gr.c),dI x.furV.art,dI x.furV.orn,dI x.furV.dyn, .sl 2 (x.furV.lyr.map Sy.c),dI x.furV.stem,dI x.furV.beam])) (Ac (Ad R R A3 R lb)) (by kernel_rfl))<|?_
 refine XL.step R (Bj 44 R Tryz.underlying22 B4 Bw R R (by omega) (by omega))<|XL.step R (A7 R D3 (.own R) (Src.own R) (by unfold maxLen;simp;omega) (by simp;omega))<|zp (Ar R (by conv=>lhs;whnf))<|?_
 refine zn<|Af (by kernel_rfl)<|zm R R<|zp (Aj R R R (by omega) (by omega))<|za R R<|zn<|?_
 exact Ak (k+1) (by omega) (by omega) (fz ⟨sr,sr,sr,sr,sr,trivial⟩) (gz ⟨R,Ea R (Ef hx0 (Wp (.inl c25) c32)),trivial⟩)
 refine zi<|zr<|zm R R<|zm R R<|zp (Am R R R Lx hx0)<|zp (Ae (s':= .d (.agg (Val.c x0))) (Av R R Co lb) (by kernel_rfl))<|zp (Aa R R Cm)<|?_
 refine XL.step R (Ag (l':= [.d (dI x.furV.site), .d (dI x.furV.num), .d (dI x.furV.kind), .d (dI x0.log), .d (dI x0.dots), .d (.sl 5 (x.furV.heads.map Hd.c)), .d (.sl 5 (x.furV.graces.map Gr.c)), .d (dI x.furV.art), .d (dI x.furV.orn), .d (dI x.furV.dyn), .d (.sl 2 (x.furV.lyr.map Sy.c)), .d (dI x.furV.stem), .d (dI x.furV.beam)]) R R R R Dx R lb (by kernel_rfl))<|zng<|?_
 refine zp (Aw R (by conv=>lhs;whnf))<|?_
 refine zp (Ae (s':= .d (.agg [dI x.furV.site,dI x.furV.num,dI x.furV.kind,dI x0.log,dI x0.dots, .sl 5 (x.furV.heads.map Hd.c), .sl 5 (x.furV.graces.map Gr.c),dI x.furV.art,dI x.furV.orn,dI x.furV.dyn, .sl 2 (x.furV.lyr.map Sy.c),dI x.furV.stem,dI x.furV.beam])) (Ac (Ad R R A3 R lb)) (by kernel_rfl))<|?_
 refine XL.step R (Bj 44 R Tryz.underlying22 B4 Bw R R (by omega) (by omega))<|XL.step R (A7 R D3 (.own R) (Src.own R) (by unfold maxLen;simp;omega) (by simp;omega))<|zp (Ar R (by conv=>lhs;whnf))<|?_
 refine zn<|Af (by kernel_rfl)<|zm R R<|zp (Aj R R R (by omega) (by omega))<|za R R<|zn<|?_
 exact Ak (k+1) (by omega) (by omega) (fz ⟨sr,sr,sr,sr,sr,trivial⟩) (gz ⟨R,Ea R (Ef hx0 (Wo (.inl c25) c32)),trivial⟩)
 refine zi<|zs<|zr<|zm R R<|zp (Aj R R R (by omega) (by omega))<|zm R R<|XL.len R R R Tryz.underlying106 fun hl31=>zp (As R R R)<|zn<|?_
 refine zd R (fun c32=> ?_) (fun c32=> ?_)
 refine Af (by kernel_rfl)<|zp (Aa R R Bi)<|zp (Ab R R Ct R R)<|XL.call1 R R (Km _ (by omega)) R<|zp (Aa R R Bi)<|?_
 refine XL.step R (Ag (l':= [.d (dI x.site), .d (dI x.num), .d (dI x.kind), .d (dI x.v.log), .d (dI x.v.dots), .d (.sl 5 ((x.heads.map Hd.tie).map Hd.c)), .d (.sl 5 (x.graces.map Gr.c)), .d (dI x.art), .d (dI x.orn), .d (dI x.dyn), .d (.sl 2 (x.lyr.map Sy.c)), .d (dI x.stem), .d (dI x.beam)]) R R R R H4 R lb (by kernel_rfl))<|znr<|zm R R<|zm R R<|zp (Am R R R Lx hx0)<|?_
 refine zp (Ae (s':= .d (.agg (Val.c x0))) (Av R R Co lb) (by kernel_rfl))<|zp (Aa R R Cm)<|?_
 refine XL.step R (Ag (l':= [.d (dI x.site), .d (dI x.num), .d (dI x.kind), .d (dI x0.log), .d (dI x0.dots), .d (.sl 5 ((x.heads.map Hd.tie).map Hd.c)), .d (.sl 5 (x.graces.map Gr.c)), .d (dI x.art), .d (dI x.orn), .d (dI x.dyn), .d (.sl 2 (x.lyr.map Sy.c)), .d (dI x.stem), .d (dI x.beam)]) R R R R Dx R lb (by kernel_rfl))<|zng<|zp (Aw R (by conv=>lhs;whnf))<|?_
 refine zp (Ae (s':= .d (.agg [dI x.site,dI x.num,dI x.kind,dI x0.log,dI x0.dots, .sl 5 ((x.heads.map Hd.tie).map Hd.c), .sl 5 (x.graces.map Gr.c),dI x.art,dI x.orn,dI x.dyn, .sl 2 (x.lyr.map Sy.c),dI x.stem,dI x.beam])) (Ac (Ad R R A3 R lb)) (by kernel_rfl))<|XL.step R (Bj 44 R Tryz.underlying22 B4 Bw R R (by omega) (by omega))<|?_
 refine XL.step R (A7 R D3 (.own R) (Src.own R) (by unfold maxLen;simp;omega) (by simp;omega))<|zp (Ar R (by conv=>lhs;whnf))<|?_
 refine zn<|Af (by kernel_rfl)<|zm R R<|zp (Aj R R R (by omega) (by omega))<|za R R<|zn<|?_
 exact Ak (k+1) (by omega) (by omega) (fz ⟨sr,sr,sr,sr,sr,trivial⟩) (gz ⟨R,Ea R (Ef hx0 (Ab3 c25 R c32)),trivial⟩)
 refine zi<|zr<|zm R R<|zm R R<|zp (Am R R R Lx hx0)<|zp (Ae (s':= .d (.agg (Val.c x0))) (Av R R Co lb) (by kernel_rfl))<|zp (Aa R R Cm)<|?_
 refine XL.step R (Ag (l':= [.d (dI x.site), .d (dI x.num), .d (dI x.kind), .d (dI x0.log), .d (dI x0.dots), .d (.sl 5 (x.heads.map Hd.c)), .d (.sl 5 (x.graces.map Gr.c)), .d (dI x.art), .d (dI x.orn), .d (dI x.dyn), .d (.sl 2 (x.lyr.map Sy.c)), .d (dI x.stem), .d (dI x.beam)]) R R R R Dx R lb (by kernel_rfl))<|zng<|zp (Aw R (by conv=>lhs;whnf))<|?_
 refine zp (Ae (s':= .d (.agg [dI x.site,dI x.num,dI x.kind,dI x0.log,dI x0.dots, .sl 5 (x.heads.map Hd.c), .sl 5 (x.graces.map Gr.c),dI x.art,dI x.orn,dI x.dyn, .sl 2 (x.lyr.map Sy.c),dI x.stem,dI x.beam])) (Ac (Ad R R A3 R lb)) (by kernel_rfl))<|XL.step R (Bj 44 R Tryz.underlying22 B4 Bw R R (by omega) (by omega))<|?_
 refine XL.step R (A7 R D3 (.own R) (Src.own R) (by unfold maxLen;simp;omega) (by simp;omega))<|zp (Ar R (by conv=>lhs;whnf))<|?_
 refine zn<|Af (by kernel_rfl)<|zm R R<|zp (Aj R R R (by omega) (by omega))<|za R R<|zn<|?_
 exact Ak (k+1) (by omega) (by omega) (fz ⟨sr,sr,sr,sr,sr,trivial⟩) (gz ⟨R,Ea R (Ef hx0 (Ab2 c25 R c32)),trivial⟩)
 have hk0b:k=(m.split a b).length:=by omega
 have ht:Ga x (m.split a b) false k=Bs x (m.split a b) false:=by rw [Ga,hk0b,List.take_length];rfl
 refine Ap<|zr<|zp (Aw R (by conv=>lhs;whnf))<|?_
 refine zp (Ar R (by conv=>lhs;whnf))<|?_
 refine zn<|zt<|?_
 exact ⟨Eh R (RVS.tmp R R),HSub.cons (by rw [ht];rfl) (HSub.nil)⟩
theorem Aut {v:Vo} {L t a:Int} {k:Nat} (h:ckE v L=0) (hat:atS (ckL v L) t (ckL v L).length=((k:Int),a)):XC Tryz.prog 24 [.agg (Vo.c v),dI L,dI t] (fun r=>r= .tup [dI k,dI a]):=by
 have:=Aus v L t h
 rw [hat] at this
 exact this
theorem Asy {v:Vo} {L:Int} (h:ckE v L=0):XC Tryz.prog 32 [.agg (Vo.c v),dI L] (fun r=>r= .sl 1 (B8 (ckL v L))):=by
 obtain ⟨h1,h2,h3⟩:=Tv h
 have:=M8 v L h2 h3
 rw [h1] at this
 exact this
theorem Aol {v:Vo} {L t a:Int} {k:Nat} (h:ckE v L=0) (hne:v.evs.length≠0) (h0:0≤t) (h1:t<L) (hat:atS (ckL v L) t (ckL v L).length=((k:Int),a)):∃w,(ckL v L)[k]? =some w∧a≤t∧t<a+w∧a+w≤L:=by
 have hne2:v.evs≠ []:=fun k=>hne (by rw [k];rfl)
 obtain ⟨j,w,hw,k1,k2⟩:=Aa6 h0 (by rw [Sw h hne2];exact h1)
 have hp:=Lk h
 have hjl:=(List.getElem?_eq_some_iff.1 hw).1
 have hj:=Aak hp (t:=t) (j:=j+1) (by omega) (fun i hi=>by have:=K5 hp (j:=i) (k:=j) (by omega);omega) (.inr (by rw [Bp hw,Hb];omega)) (ckL v L).length (by omega) (Nat.le_refl _)
 rw [hj] at hat
 have e1:((j:Nat):Int)=k:=congrArg Prod.fst hat
 have e2:tot ((ckL v L).take j)=a:=congrArg Prod.snd hat
 have e3:j=k:=by omega
 subst e3
 have hm:=K5 hp (j:=j+1) (k:=(ckL v L).length) (by omega)
 rw [Bp hw,Hb,List.take_length,Sw h hne2] at hm
 exact ⟨w,hw,by omega,by omega,by omega⟩
theorem X9 {v:Vo} {L:Int} (h:ckE v L=0) (h0:v.evs.length=0):v.tups= []:=by
 obtain ⟨ws,ls,hT⟩:=Pq h
 by_cases c:v.rest
 ·exact absurd c.2 (by omega)
 ·have hv:=((K2 c).1 ⟨h,rfl⟩).2.2.1
  cases ht:v.tups with
  |nil=>rfl
  |cons t l=>
   have:=hv.tl.tv.inR t (by rw [ht];exact List.mem_cons_self)
   have h2:(wrS v.evs).length=v.evs.length:=Hv _
   unfold Tp.inR at this
   omega
theorem Ajk {v:Vo} {L:Int} (h:ckE v L=0):∀t∈v.tups,t.ok:=by
 obtain ⟨ws,ls,hT⟩:=Pq h
 exact fun t ht=>(hT.tv.inR t ht).ok (by have:=hT.wl;omega)
theorem Ac0 {v:Vo} {L:Int} (h:ckE v L=0) (k:Int):Rh v.tups k=true↔0<G5 v.tups k:=by
 obtain ⟨ws,ls,hT⟩:=Pq h
 rw [Ly hT,Anx];omega
theorem An7 (x:Ev) (n i:Nat) (v:Val):Fg x.furV n false i v=Fg x n true i v:=by
 have e:x.furV.further=x.further:=by
  have hp:(x.heads.map Hd.plain).map Hd.plain=x.heads.map Hd.plain:=by rw [List.map_map];exact List.map_congr_left fun h _=>rfl
  unfold Ev.further Ev.furV
  simp only [hp]
 have e2:∀t,x.furV.put v t=x.further.put v t:=fun t=>rfl
 unfold Fg
 rw [e,if_pos (show 0<(i:Int)∨true=true from .inr rfl)]
 split
 ·rfl
 ·exact e2 _
theorem W7 (x:Ev) (vs:List Val):Bs x.furV vs false=Bs x vs true:=by
 unfold Bs
 refine List.ext_getElem? fun i=> ?_
 rw [List.getElem?_mapIdx,List.getElem?_mapIdx]
 cases vs[i]? with
 |none=>rfl
 |some v=>exact congrArg some (An7 x _ i v)
theorem Acl {x:Ev} (h:x.fit):x.furV.fit:=⟨by show (x.heads.map Hd.plain).length≤1000;rw [List.length_map];exact h.1,Nat.zero_le _,Nat.zero_le _⟩
theorem Z7 {p:Pl} {t a w:Int} {x:Ev} (h:x.kind=3):Bs x.asRest.tiedE (p.m.split (p.off+a) (p.off+t)) false++Bs x.asRest.furV (p.m.split (p.off+t) (p.off+(a+w))) false=C7 p t a w x:=by rw [W7,Rq h]
theorem Z8 {p:Pl} {t a w:Int} {x:Ev} (h:¬x.kind=3):Bs x.tiedE (p.m.split (p.off+a) (p.off+t)) false++Bs x.furV (p.m.split (p.off+t) (p.off+(a+w))) false=C7 p t a w x:=by rw [W7,Rr h]
theorem Aqj {l:List Tp} {k:Nat} {c:Int} (ho:l.Pairwise Tp.bef) (hok:∀t∈l,t.ok) (hd:∀t∈l,¬t.has k):
  l.map (Jj ((k:Int)+1) c)=Ci (fun t=>decide (t.first<(k:Int))) 0 l++Ci (fun t=>decide ((k:Int)+1≤t.first)) c l:=by
 induction l with
 |nil=>rfl
 |cons t l ih=>
  have h1:=ih (List.pairwise_cons.1 ho).2 (fun u hu=>hok u (List.mem_cons_of_mem _ hu)) (fun u hu=>hd u (List.mem_cons_of_mem _ hu))
  have h2:=hd t List.mem_cons_self
  have h3:=hok t List.mem_cons_self
  have h4:=(List.pairwise_cons.1 ho).1
  unfold Tp.has at h2
  unfold Tp.ok at h3
  unfold Ci at h1 ⊢
  by_cases q:t.first<(k:Int)
  ·rw [List.map_cons,h1,List.filter_cons_of_pos (by simpa using q),List.filter_cons_of_neg (by simp;omega),List.map_cons,List.cons_append,Anv (by omega) (by unfold Tp.has;omega)]
   have:Tp.mv 0 t=t:=by unfold Tp.mv;rw [Int.add_zero]
   rw [this]
  ·have e:l.filter (fun t=>decide (t.first<(k:Int)))= []:=by
    rw [List.filter_eq_nil_iff]
    intro u hu
    have:=(h4 u hu).first
    simp;omega
   rw [e] at h1
   rw [List.map_cons,h1,List.filter_cons_of_neg (by simpa using q),List.filter_cons_of_pos (by simp;omega),e,Anw (by omega)]
   rfl
theorem Ape {v:Vo} {L:Int} {k:Nat} {l:List Ev} (h:ckE v L=0) (hd:¬Rh v.tups k=true):A8 v k 1 ⟨l, []⟩=⟨v.evs.take k++l++v.evs.drop (k+1),v.tups.map (Jj ((k:Int)+1) ((l.length:Int) - 1))⟩:=by
 obtain ⟨ws,ls,hT⟩:=Pq h
 have hd2:∀t∈v.tups,¬t.has k:=fun t ht hh=>hd (by obtain ⟨j,hj⟩:=List.getElem?_of_mem ht;exact (Acd hj hh).symm)
 rw [Aqj hT.tv.ord (Ajk h) hd2]
 unfold A8
 rw [If,List.append_nil];rfl
theorem Ti {m:Me} {a b:Int} (hm:m.err=0) (h1:0≤a) (h2:a≤b) (h3:b≤30965760) (h4:b - a≤15482880):m.splitE a b=if a % 7560≠0∨b % 7560≠0 then 16 else 0:=by
 obtain ⟨_,_,hS3,_,hS5⟩:=Amf m a b
 split
 ·exact hS3 hm (by omega) (by assumption)
 ·exact hS5 hm (by omega) (by assumption) (by omega)
end Go.Proofs.YtcihalbakenleaaGreat
namespace Go.Proofs.YtcihalbakenleaaGreat
open Go.RowKit
theorem Awk {v:Vo} {p:Pl} {t:Int} (hc:p.chk v=0) (h:(v.evs.length:Int)=0):I0 v p t=(⟨[], []⟩,10):=Awe (by omega) ⟨by omega,by rw [X9 (C6 hc).2.2 (by omega)];rfl⟩
theorem Arh {v:Vo} {p:Pl} {t:Int} (hc:p.chk v=0) (h0:¬(v.evs.length:Int)=0) (h:t<0∨p.len<t):I0 v p t=(⟨[], []⟩,2):=Aq5 (by omega) (fun k=>h0 (by have:=k.1;omega)) h
theorem Lr {v:Vo} {p:Pl} {t:Int} (hc:p.chk v=0) (h0:¬(v.evs.length:Int)=0) (h:¬(t<0∨p.len<t)):I0 v p t=Al v p t:=Awd (by omega) (fun k=>h0 (by have:=k.1;omega)) h
theorem Arg {v:Vo} {p:Pl} {t:Int} {k:Nat} {a:Int} (hc:p.chk v=0) (h0:¬(v.evs.length:Int)=0) (h:¬(t<0∨p.len<t)) (hat:atS (ckL v p.len) t (ckL v p.len).length=((k:Int),a)) (h2:t=p.len∨a=t):I0 v p t=(v,0):=by
 rw [Lr hc h0 h]
 obtain ⟨hA1,hA2,hA3,hA4⟩:=Xe v p.len t
 have hck:=(C6 hc).2.2
 by_cases c:t=p.len
 ·unfold Al
  rw [if_pos (.inl (by rw [hA3 hck (by omega) (by omega)];decide))]
 ·have he:=hA4 hck (by omega) (by omega)
  exact M5 (by rw [Alu he];exact hat) (.inr (by omega))
theorem Te {v:Vo} {L:Int} {k k1:Nat} {l:List Ev} (hck:ckE v L=0) (hnd:¬0<G5 v.tups k) (hk1:k1=k+1):A8 v k 1 ⟨l, []⟩=⟨v.evs.take k++l++v.evs.drop k1,v.tups.map (Jj ((k:Int)+1) ((l.length:Int) - 1))⟩:=by
 subst hk1;exact Ape hck fun h=>hnd ((Ac0 hck k).1 h)
theorem Akh {v:Vo} {p:Pl} {t a w:Int} {k:Nat} {x:Ev} (hme:p.m.err=0) (h0:0≤p.off+a) (h1:a≤t) (h2:t≤a+w) (h3:p.off+(a+w)≤30965760) (h4:w≤15482880) (hd:¬0<G5 v.tups k) (h:(p.off+a) % 7560≠0∨(p.off+t) % 7560≠0∨(p.off+(a+w)) % 7560≠0):K9 v p t k a w x=(⟨[], []⟩,16):=by
 have e1:=Ti hme h0 (show p.off+a≤p.off+t by omega) (by omega) (by omega)
 have e2:=Ti hme (show 0≤p.off+t by omega) (show p.off+t≤p.off+(a+w) by omega) h3 (by omega)
 by_cases c:(p.off+a) % 7560≠0∨(p.off+t) % 7560≠0
 ·rw [if_pos c] at e1
  rw [Av3 hd (by rw [e1];decide),e1]
 ·rw [if_neg c] at e1
  rw [if_pos (by omega)] at e2
  rw [Av2 hd (by omega) (by rw [e2];decide),e2]
theorem Akc (v:Vo) (p:Pl) (t:Int) (hF:v.fit) (hc:p.chk v=0):XC Tryz.prog 17 [.agg (Vo.c v), .agg (Pl.c p), .v (.int .i64 t)] (fun r=>r= .tup [.agg (Vo.c (I0 v p t).1),dI (I0 v p t).2]):=by
 obtain ⟨k,hat0,hk0⟩:=Yb (ckL v p.len) t (ckL v p.len).length
 obtain ⟨a,ha⟩:∃a,a=tot ((ckL v p.len).take k):=⟨_,rfl⟩
 have hat1:=hat0
 rw [←ha] at hat1
 obtain ⟨hme,hpb,hck⟩:=C6 hc
 obtain ⟨hsv,hev⟩:=Ki hck
 have hcl:=Ge hck
 have hN:=Je v p.len
 unfold Pl.bad at hpb
 have htok:=Ajk hck
 obtain ⟨hA1,hA2,hA3,hA4⟩:=Xe v p.len t
 obtain ⟨hlL,hl0,hl1⟩:=Tv hck
 refine Ao Ah0 Tryz.func17 R R lb<|zr<|XL.step R (At 3 (l:= [.d (.sl 13 (v.evs.map Ev.c)), .d (.sl 4 (v.tups.map Tp.c))]) R R (by kernel_rfl))<|XL.step R (At 4 (l:= [.d (dI p.m.count), .d (dI p.m.unit), .d (dI p.m.g0), .d (dI p.m.g1), .d (dI p.m.g2), .d (dI p.m.g3), .d (dI p.m.g4), .d (dI p.m.g5), .d (dI p.off), .d (dI p.len)]) R R (by kernel_rfl))<|?_
 refine XL.step R (A0 6 (l:= [.d (.v (.slice none 0 0)), .d (.v (.slice none 0 0))]) R A1 (by kernel_rfl))<|za R R<|zn<|zs<|zr<|zp (Aa R R Ax)<|zp (Ab R R Bk R R)<|XL.len R R R Tryz.underlying22 fun hl17=>zp (A5 R R R)<|zn<|?_
 refine zd R (fun c18=> ?_) (fun c18=> ?_)
 refine zr<|zp (Ae (s':= .d (.agg [.v (.slice none 0 0), .v (.slice none 0 0)])) (Ac (A4 R Br A1 R)) (by kernel_rfl))<|XL.step R (Ag (l':= [.d (.v (.slice none 0 0)), .d (.v (.slice none 0 0))]) R R R R Bc R lb (by kernel_rfl))<|za R R<|zn<|zt<|?_
 exact Bh R (RV.sub (RV.cells R R R An lb R) (.agg (.cons (.nil 13) (.cons (.nil 4) (.nil))))) (RV.tmp R R) (r2v (Awk hc c18))
 refine zi<|zs<|zr<|zm R R<|zp (As R R R)<|zm R R<|?_
 refine XL.dec 22 R (fun g22=> ?_) (fun g22=> ?_)
 refine zk 4 R<|zq R R R<|zn<|Aq (by kernel_rfl) R<|zr<|zp (Ae (s':= .d (.agg [.v (.slice none 0 0), .v (.slice none 0 0)])) (Ac (A4 R Br A1 R)) (by kernel_rfl))<|XL.step R (Ag (l':= [.d (.v (.slice none 0 0)), .d (.v (.slice none 0 0))]) R R R R Bc R lb (by kernel_rfl))<|za R R<|zn<|zt<|?_
 exact Bh R (RV.sub (RV.cells R R R An lb R) (.agg (.cons (.nil 13) (.cons (.nil 4) (.nil))))) (RV.tmp R R) (r2v (Arh hc c18 (by omega)))
 refine zm R R<|zp (Aa R R Jl)<|zp (Ab R R Ai R R)<|zp (Bb R R R)<|zq R R R<|zn<|?_
 refine zd R (fun c27=> ?_) (fun c27=> ?_)
 refine zr<|zp (Ae (s':= .d (.agg [.v (.slice none 0 0), .v (.slice none 0 0)])) (Ac (A4 R Br A1 R)) (by kernel_rfl))<|XL.step R (Ag (l':= [.d (.v (.slice none 0 0)), .d (.v (.slice none 0 0))]) R R R R Bc R lb (by kernel_rfl))<|za R R<|zn<|zt<|?_
 exact Bh R (RV.sub (RV.cells R R R An lb R) (.agg (.cons (.nil 13) (.cons (.nil 4) (.nil))))) (RV.tmp R R) (r2v (Arh hc c18 (by omega)))
 refine zi<|zr<|zp (Ae (s':= .d (.agg (Vo.c v))) (Ac (Ad R R An R lb)) (by kernel_rfl))<|zp (Aa R R Jl)<|zp (Ab R R Ai R R)<|zm R R<|XL.call1 R R (Aut hck hat1) R<|zm R R<|zp (A6 R R R)<|zp (A6 R R R)<|za R R<|za R R<|zn<|zs<|?_
 refine zr<|zm R R<|zp (Aa R R Jl)<|zp (Ab R R Ai R R)<|zp (A5 R R R)<|zm R R<|?_
 refine XL.dec 41 R (fun g41=> ?_) (fun g41=> ?_)
 refine zk 3 R<|zq R R R<|zn<|Aq (by kernel_rfl) R<|zr<|zp (Ae (s':= .d (.agg (Vo.c v))) (Ac (Ad R R An R lb)) (by kernel_rfl))<|XL.step R (Ag (l':= [.d (.sl 13 (v.evs.map Ev.c)), .d (.sl 4 (v.tups.map Tp.c))]) R R R R Bc R lb (by kernel_rfl))<|za R R<|zn<|zt<|?_
 exact Bh R (RV.cells R R R An lb R) (RV.tmp R R) (r2v (Arg hc c18 (by omega) hat1 (by omega)))
 refine zm R R<|zm R R<|zp (A5 R R R)<|zq R R R<|zn<|?_
 refine zd R (fun c45=> ?_) (fun c45=> ?_)
 refine zr<|zp (Ae (s':= .d (.agg (Vo.c v))) (Ac (Ad R R An R lb)) (by kernel_rfl))<|XL.step R (Ag (l':= [.d (.sl 13 (v.evs.map Ev.c)), .d (.sl 4 (v.tups.map Tp.c))]) R R R R Bc R lb (by kernel_rfl))<|za R R<|zn<|zt<|?_
 exact Bh R (RV.cells R R R An lb R) (RV.tmp R R) (r2v (Arg hc c18 (by omega) hat1 (by omega)))
 refine zi<|zs<|?_
 have he0:=hA4 hck (by omega) (by omega)
 have hat:atV v p.len t=((k:Int),a):=by rw [Alu he0];exact hat1
 have hne:¬(atE v p.len t≠0∨a=t):=by omega
 have hkl:k<(ckL v p.len).length:=by omega
 obtain ⟨w,hw,hat3,hat4,hat5⟩:=Aol hck (by omega) (by omega) (by omega) hat1
 obtain ⟨x,hx⟩:∃x,v.evs[k]? =some x:=Au (by omega)
 have hwb:=hN.bd w (List.mem_of_getElem? hw)
 have hxf:x.fit:=hF.ev x (List.mem_of_getElem? hx)
 have hxh:=hxf.1
 have hab:=hN.take k
 have hab2:=hab.tot
 refine Af (by kernel_rfl)<|zm R R<|zp (Ae (s':= .d (.agg (Vo.c v))) (Ac (Ad R R An R lb)) (by kernel_rfl))<|zp (Aa R R Jl)<|zp (Ab R R Ai R R)<|XL.call1 R R (Asy hck) R<|zm R R<|zp (Am R R R C5 (hw))<|zp (Az R R Ai)<|zp (Aj R R R (by omega) (by omega))<|za R R<|zn<|zs<|zr<|?_
 refine zp (Aa R R Bn)<|zp (Ab R R B1 R R)<|zm R R<|XL.call1 R R (Asp _ _ (by assumption)) R<|zn<|?_
 refine Dw (by kernel_rfl) R (fun c59=> ?_) (fun c59=> ?_)
 refine zr<|zp (Ae (s':= .d (.agg [.v (.slice none 0 0), .v (.slice none 0 0)])) (Ac (A4 R Br A1 R)) (by kernel_rfl))<|XL.step R (Ag (l':= [.d (.v (.slice none 0 0)), .d (.v (.slice none 0 0))]) R R R R Bc R lb (by kernel_rfl))<|za R R<|zn<|zt<|?_
 exact Bh R (RV.sub (RV.cells R R R An lb R) (.agg (.cons (.nil 13) (.cons (.nil 4) (.nil))))) (RV.tmp R R) (r2v ((Lr hc c18 (by omega)).trans ((Ft hat hne hx hw).trans (Av4 ((Ac0 hck k).1 c59)))))
 have hnd:¬0<G5 v.tups k:=fun h=>Ajp c59 ((Ac0 hck k).2 h)
 refine zi<|zs<|zr<|zp (Aa R R D5)<|zp (Ab R R Ai R R)<|zm R R<|zp (Aj R R R (by omega) (by omega))<|zp (D1 R R R (by omega) (by omega))<|zp (Be R R R)<|zm R R<|?_
 refine XL.dec 67 R (fun g67=> ?_) (fun g67=> ?_)
 refine zk 6 R<|zq R R R<|zm R R<|zk 6 R<|zq R R R<|zn<|Aq (by kernel_rfl) R<|zr<|zp (Ae (s':= .d (.agg [.v (.slice none 0 0), .v (.slice none 0 0)])) (Ac (A4 R Br A1 R)) (by kernel_rfl))<|XL.step R (Ag (l':= [.d (.v (.slice none 0 0)), .d (.v (.slice none 0 0))]) R R R R Bc R lb (by kernel_rfl))<|za R R<|zn<|zt<|?_
 exact Bh R (RV.sub (RV.cells R R R An lb R) (.agg (.cons (.nil 13) (.cons (.nil 4) (.nil))))) (RV.tmp R R) (r2v ((Lr hc c18 (by omega)).trans ((Ft hat hne hx hw).trans (Akh hme (by omega) (by omega) (by omega) (by omega) (by omega) hnd (by omega)))))
 refine zp (Aa R R D5)<|zp (Ab R R Ai R R)<|zm R R<|zp (Aj R R R (by omega) (by omega))<|zp (D1 R R R (by omega) (by omega))<|zp (Be R R R)<|zq R R R<|zm R R<|?_
 refine XL.dec 75 R (fun g75=> ?_) (fun g75=> ?_)
 refine zk 6 R<|zq R R R<|zn<|Aq (by kernel_rfl) R<|zr<|zp (Ae (s':= .d (.agg [.v (.slice none 0 0), .v (.slice none 0 0)])) (Ac (A4 R Br A1 R)) (by kernel_rfl))<|XL.step R (Ag (l':= [.d (.v (.slice none 0 0)), .d (.v (.slice none 0 0))]) R R R R Bc R lb (by kernel_rfl))<|za R R<|zn<|zt<|?_
 exact Bh R (RV.sub (RV.cells R R R An lb R) (.agg (.cons (.nil 13) (.cons (.nil 4) (.nil))))) (RV.tmp R R) (r2v ((Lr hc c18 (by omega)).trans ((Ft hat hne hx hw).trans (Akh hme (by omega) (by omega) (by omega) (by omega) (by omega) hnd (by omega)))))
 refine zp (Aa R R D5)<|zp (Ab R R Ai R R)<|zm R R<|zp (Aj R R R (by omega) (by omega))<|zp (D1 R R R (by omega) (by omega))<|zp (Be R R R)<|zq R R R<|zn<|?_
 refine zd R (fun c82=> ?_) (fun c82=> ?_)
 refine zr<|zp (Ae (s':= .d (.agg [.v (.slice none 0 0), .v (.slice none 0 0)])) (Ac (A4 R Br A1 R)) (by kernel_rfl))<|XL.step R (Ag (l':= [.d (.v (.slice none 0 0)), .d (.v (.slice none 0 0))]) R R R R Bc R lb (by kernel_rfl))<|za R R<|zn<|zt<|?_
 exact Bh R (RV.sub (RV.cells R R R An lb R) (.agg (.cons (.nil 13) (.cons (.nil 4) (.nil))))) (RV.tmp R R) (r2v ((Lr hc c18 (by omega)).trans ((Ft hat hne hx hw).trans (Akh hme (by omega) (by omega) (by omega) (by omega) (by omega) hnd (by omega)))))
 refine zi<|zs<|?_
 have hs1:p.m.splitE (p.off+a) (p.off+t)=0:=by rw [Ti hme (by omega) (by omega) (by omega) (by omega),if_neg (by omega)]
 have hs2:p.m.splitE (p.off+t) (p.off+(a+w))=0:=by rw [Ti hme (by omega) (by omega) (by omega) (by omega),if_neg (by omega)]
 have hq1:=Ie p.m (p.off+a) (p.off+t)
 have hq2:=Ie p.m (p.off+t) (p.off+(a+w))
 have hdl:(C7 p t a w x).length=(p.m.split (p.off+a) (p.off+t)).length+(p.m.split (p.off+t) (p.off+(a+w))).length:=by rw [C7,List.length_append,Cn,Cn]
 have htl:=hsv.tups
 obtain ⟨k1,hk1⟩:∃k1:Nat,k1=k+1:=⟨_,rfl⟩
 refine Af (by kernel_rfl)<|zp (Aa R R Ax)<|zp (Ab R R Bk R R)<|zm R R<|zp (Am R R R B5 (hx))<|zp (Ae (s':= .d (.agg (Ev.c x))) (Av R R A3 lb) (by kernel_rfl))<|?_
 refine XL.step R (A0 11 (l:= [.d (dI 0), .d (dI 0), .d (dI 0), .d (dI 0), .d (dI 0), .d (.v (.slice none 0 0)), .d (.v (.slice none 0 0)), .d (dI 0), .d (dI 0), .d (dI 0), .d (.v (.slice none 0 0)), .d (dI 0), .d (dI 0)]) R Bw (by kernel_rfl))<|?_
 refine XL.step R (Ag (l':= [.d (dI x.site), .d (dI x.num), .d (dI x.kind), .d (dI x.v.log), .d (dI x.v.dots), .d (.sl 5 (x.heads.map Hd.c)), .d (.sl 5 (x.graces.map Gr.c)), .d (dI x.art), .d (dI x.orn), .d (dI x.dyn), .d (.sl 2 (x.lyr.map Sy.c)), .d (dI x.stem), .d (dI x.beam)]) R R R R B4 R lb (by kernel_rfl))<|zn<|zs<|zr<|zp (Aa R R B2)<|zp (Ab R R Ai R R)<|?_
 refine zp (A5 R R R)<|zn<|?_
 refine zd R (fun c91=> ?_) (fun c91=> ?_)
 refine Af (by kernel_rfl)<|zp (Aa R R B2)<|XL.step R (Ag (l':= [.d (dI x.site), .d (dI x.num), .d (dI 2), .d (dI x.v.log), .d (dI x.v.dots), .d (.sl 5 (x.heads.map Hd.c)), .d (.sl 5 (x.graces.map Gr.c)), .d (dI x.art), .d (dI x.orn), .d (dI x.dyn), .d (.sl 2 (x.lyr.map Sy.c)), .d (dI x.stem), .d (dI x.beam)]) R R R R Cs R lb (by kernel_rfl))<|znr<|?_
 refine zp (Ae (s':= .d (.agg [dI x.site,dI x.num,dI 2,dI x.v.log,dI x.v.dots, .sl 5 (x.heads.map Hd.c), .sl 5 (x.graces.map Gr.c),dI x.art,dI x.orn,dI x.dyn, .sl 2 (x.lyr.map Sy.c),dI x.stem,dI x.beam])) (Ac (Ad R R A3 R lb)) (by kernel_rfl))<|?_
 refine XL.step R (A0 12 (l:= [.d (dI 0), .d (dI 0), .d (dI 0), .d (dI 0), .d (dI 0), .d (.v (.slice none 0 0)), .d (.v (.slice none 0 0)), .d (dI 0), .d (dI 0), .d (dI 0), .d (.v (.slice none 0 0)), .d (dI 0), .d (dI 0)]) R Bw (by kernel_rfl))<|?_
 refine XL.step R (Ag (l':= [.d (dI x.site), .d (dI x.num), .d (dI 2), .d (dI x.v.log), .d (dI x.v.dots), .d (.sl 5 (x.heads.map Hd.c)), .d (.sl 5 (x.graces.map Gr.c)), .d (dI x.art), .d (dI x.orn), .d (dI x.dyn), .d (.sl 2 (x.lyr.map Sy.c)), .d (dI x.stem), .d (dI x.beam)]) R R R R B4 R lb (by kernel_rfl))<|znr<|zp (Aa R R Bi)<|zp (Ab R R Ct R R)<|?_
 refine XL.call1 R R (Km _ (by omega)) R<|zp (Aa R R Bi)<|XL.step R (Ag (l':= [.d (dI x.site), .d (dI x.num), .d (dI 2), .d (dI x.v.log), .d (dI x.v.dots), .d (.sl 5 ((x.heads.map Hd.tie).map Hd.c)), .d (.sl 5 (x.graces.map Gr.c)), .d (dI x.art), .d (dI x.orn), .d (dI x.dyn), .d (.sl 2 (x.lyr.map Sy.c)), .d (dI x.stem), .d (dI x.beam)]) R R R R H4 R lb (by kernel_rfl))<|?_
 refine zn<|zs<|Ce 24 [7001] (by kernel_rfl) (by kernel_rfl) (by kernel_rfl) (by kernel_rfl) (by decide)<|yp (Ae (s':= .d (.agg [dI x.site,dI x.num,dI 2,dI x.v.log,dI x.v.dots, .sl 5 ((x.heads.map Hd.tie).map Hd.c), .sl 5 (x.graces.map Gr.c),dI x.art,dI x.orn,dI x.dyn, .sl 2 (x.lyr.map Sy.c),dI x.stem,dI x.beam])) (Ac (Ad R R A3 R lb)) (by kernel_rfl))<|?_
 refine yp (Aa R R K8)<|yp (Ae (s':= .d (.agg (Me.c p.m))) (Ac (Ad R R Bo R lb)) (by kernel_rfl))<|yp (Aa R R D5)<|yp (Ab R R Ai R R)<|ym R R<|yp (Aj R R R (by omega) (by omega))<|yp (Aa R R D5)<|yp (Ab R R Ai R R)<|ym R R<|yp (Aj R R R (by omega) (by omega))<|?_
 refine ChK.cons R (CStep.callS R ((Yw (x.asRest.tiedE) p.m (p.off+a) (p.off+t) hxf.rest.tied hs1).lab 7001) R (Ex (by kernel_rfl)))<|?_
 refine yp (Ae (s':= .d (.agg [dI x.site,dI x.num,dI 2,dI x.v.log,dI x.v.dots, .sl 5 (x.heads.map Hd.c), .sl 5 (x.graces.map Gr.c),dI x.art,dI x.orn,dI x.dyn, .sl 2 (x.lyr.map Sy.c),dI x.stem,dI x.beam])) (Ac (Ad R R A3 R lb)) (by kernel_rfl))<|ChK.cons R (CStep.call R (O3 x.asRest hxf.rest) R)<|yp (Aa R R K8)<|?_
 refine yp (Ae (s':= .d (.agg (Me.c p.m))) (Ac (Ad R R Bo R lb)) (by kernel_rfl))<|yp (Aa R R D5)<|yp (Ab R R Ai R R)<|ym R R<|yp (Aj R R R (by omega) (by omega))<|yp (Aa R R D5)<|yp (Ab R R Ai R R)<|ym R R<|yp (Aj R R R (by omega) (by omega))<|?_
 refine ChK.nil ⟨by kernel_rfl, ?_⟩
 refine XL.call1 R R (O2 (x.asRest.furV) p.m (p.off+t) (p.off+(a+w)) (Acl hxf.rest) hs2) R<|?_
 refine XL.step R (A7 R D3 (.own R) (Src.sl (by omega)) (by simp only [List.length_append,List.length_map,Cn,List.length_take,List.length_drop,List.length_nil];unfold maxLen;omega) (by simp only [List.length_append,List.length_map,Cn,List.length_take,List.length_drop,List.length_nil];omega))<|zp (Ar R (by conv=>lhs;whnf))<|?_
 refine znr<|XL.step R (Bj 124 R Tryz.underlying22 B4 Bw R R (by omega) (by omega))<|zp (Aa R R Ax)<|zp (Ab R R Bk R R)<|zm R R<|zp (Ee R R B5 Bd.no (Bd.at R) (by omega) (by omega))<|XL.step R (A7 R D3 (.own R) (Src.sl (by omega)) (by unfold maxLen;simp;omega) (by simp;omega))<|zp (Ac (A4 R Br A1 R))<|?_
 refine XL.step R (A0 14 (l:= [.d (.v (.slice none 0 0)), .d (.v (.slice none 0 0))]) R A1 (by kernel_rfl))<|XL.step R (Ag (l':= [.own 124, .d (.v (.slice none 0 0))]) R R R R Bc R lb (by kernel_rfl))<|zn<|zs<|?_
 refine J1 3 9 [] (S.kill 124) 124 (Sj 124 (.row 60 13 ((v.evs.take k++C7 p t a w x).map Ev.c))) (by kernel_rfl) (by kernel_rfl) (by kernel_rfl) (by kernel_rfl) (by decide)<|ChMK.bf R (CStep.pure (Aa R R Ax)) (by conv=>lhs;whnf)<|?_
 refine ChMK.bf R (CStep.pure (Ab R R Bk R R)) (by conv=>lhs;whnf)<|?_
 refine ChMK.bf R (CStep.pure (Aw R (by conv=>lhs;whnf))) (by conv=>lhs;whnf)<|?_
 refine ChMK.mu R (Og (l2:=(v.evs.take k++C7 p t a w x).map Ev.c) R D3 (.own R) (Src.own R) (by simp only [List.length_append,List.length_map,Cn,List.length_take,List.length_drop,List.length_nil];unfold maxLen;omega) (by simp only [List.length_append,List.length_map,Cn,List.length_take,List.length_drop,List.length_nil];omega) (by first|(rw [←Z7 c91];simp only [List.map_append,List.nil_append,List.drop_zero])|(rw [←Z8 c91];simp only [List.map_append,List.nil_append,List.drop_zero])))<|?_
 refine ChMK.fr R R (CStep.pure (Aa R R Ax)) (CStep.pure (Aa R R Ax)) (by exact rfl)<|ChMK.fr R R (CStep.pure (Ab R R Bk R R)) (CStep.pure (Ab R R Bk R R)) (by exact rfl)<|ChMK.fr R R (CStep.pure (Aw R (by conv=>lhs;whnf))) (CStep.pure (Aw R (by conv=>lhs;whnf))) (by exact rfl)<|?_
 refine ChMK.fr R R (CStep.pure (Ae (s':= .d (dI (k1:Nat))) (Aj R R R (by omega) (by omega)) (sI (by omega)))) (CStep.pure (Ae (s':= .d (dI (k1:Nat))) (Aj R R R (by omega) (by omega)) (sI (by omega)))) (by exact rfl)<|?_
 refine ChMK.fr R R (CStep.pure (Ee R R B5 (Bd.at R) Bd.no (by omega) (Nat.le_refl _))) (CStep.pure (Ee R R B5 (Bd.at R) Bd.no (by omega) (Nat.le_refl _))) (by exact rfl)<|?_
 refine ChMK.nil ⟨⟨by kernel_rfl,by kernel_rfl,by kernel_rfl⟩, ?_⟩
 refine XL.step R (A7 R D3 (.own R) (Src.sl (by omega)) (by simp only [List.length_append,List.length_map,Cn,List.length_take,List.length_drop,List.length_nil];unfold maxLen;omega) (by simp only [List.length_append,List.length_map,Cn,List.length_take,List.length_drop,List.length_nil];omega))<|zp (Aa R R Ax)<|?_
 refine XL.step R (Ag (l':= [.own 124, .d (.v (.slice none 0 0))]) R R R R Vy R lb (by kernel_rfl))<|znr<|zp (Aa R R Bn)<|zp (Ab R R B1 R R)<|XL.call1 R R (J9 _ (by omega)) R<|zm R R<|zp (Aj R R R (by omega) (by omega))<|zp (Aw R (by conv=>lhs;whnf))<|?_
 refine zp (Ae (s':= .d (dI ((C7 p t a w x).length:Nat))) (My R R R Tryz.underlying22) (by first|(rw [←Z7 c91];simp only [List.length_append,List.length_map])|(rw [←Z8 c91];simp only [List.length_append,List.length_map])))<|zp (C9 R R R (by omega) (by omega))<|XL.call1 R R (We _ _ _ (by assumption) (by omega) (by omega)) R<|?_
 refine XL.call1 R R (Abg _ (by rw [List.length_map];omega)) R<|zp (Aa R R Bn)<|XL.step R (Ag (l':= [.own 124, .d (.sl 4 ((v.tups.map (Jj ((k:Nat)+1) (((C7 p t a w x).length:Nat) - 1))).map Tp.c))]) R R R R G9 R lb (by kernel_rfl))<|zn<|zs<|zr<|zp (Aa R R Ax)<|zp (Ab R R Bk R R)<|?_
 refine zp (Ae (s':= .d (dI ((v.evs.take k++C7 p t a w x++v.evs.drop k1).length:Nat))) (My R R R Tryz.underlying22) (by simp only [List.length_append,List.length_map,List.take_length]))<|zp (Bb R R R)<|zn<|?_
 refine zd R (fun c156=> ?_) (fun c156=> ?_)
 refine zr<|zp (Ae (s':= .d (.agg [.v (.slice none 0 0), .v (.slice none 0 0)])) (Ac (A4 R Br A1 R)) (by kernel_rfl))<|XL.step R (Ag (l':= [.d (.v (.slice none 0 0)), .d (.v (.slice none 0 0))]) R R R R Bc R lb (by kernel_rfl))<|za R R<|zn<|zt<|?_
 exact Bh R (RV.sub (RV.cells R R R An lb R) (.agg (.cons (.nil 13) (.cons (.nil 4) (.nil))))) (RV.tmp R R) (r2v ((Lr hc c18 (by omega)).trans ((Ft hat hne hx hw).trans (All hnd (by omega) (by omega) R (by rw [Te hck hnd hk1];exact c156)))))
 refine zi<|zr<|zp (Ac (Ad R R An R lb))<|XL.step R (Ag (l':= [.own 124, .d (.sl 4 ((v.tups.map (Jj ((k:Nat)+1) (((C7 p t a w x).length:Nat) - 1))).map Tp.c))]) R R R R Bc R lb (by kernel_rfl))<|za R R<|zn<|zt<|Bg (i:=124) R<|?_
 exact Bh R (RV.cells R R R An lb R) (RV.tmp R R) (by rw [Lr hc c18 (by omega),Ft hat hne hx hw,Alk hnd (by omega) (by omega) rfl (by rw [Te hck hnd hk1];exact c156),Te hck hnd hk1];simp only [Vo.c,List.map_append,List.take_length];rfl)
 refine zi<|zr<|zp (Ae (s':= .d (.agg (Ev.c x))) (Ac (Ad R R A3 R lb)) (by kernel_rfl))<|XL.step R (A0 12 (l:= [.d (dI 0), .d (dI 0), .d (dI 0), .d (dI 0), .d (dI 0), .d (.v (.slice none 0 0)), .d (.v (.slice none 0 0)), .d (dI 0), .d (dI 0), .d (dI 0), .d (.v (.slice none 0 0)), .d (dI 0), .d (dI 0)]) R Bw (by kernel_rfl))<|?_
 refine XL.step R (Ag (l':= [.d (dI x.site), .d (dI x.num), .d (dI x.kind), .d (dI x.v.log), .d (dI x.v.dots), .d (.sl 5 (x.heads.map Hd.c)), .d (.sl 5 (x.graces.map Gr.c)), .d (dI x.art), .d (dI x.orn), .d (dI x.dyn), .d (.sl 2 (x.lyr.map Sy.c)), .d (dI x.stem), .d (dI x.beam)]) R R R R B4 R lb (by kernel_rfl))<|znr<|zp (Aa R R Bi)<|zp (Ab R R Ct R R)<|?_
 refine XL.call1 R R (Km _ (by omega)) R<|zp (Aa R R Bi)<|?_
 refine XL.step R (Ag (l':= [.d (dI x.site), .d (dI x.num), .d (dI x.kind), .d (dI x.v.log), .d (dI x.v.dots), .d (.sl 5 ((x.heads.map Hd.tie).map Hd.c)), .d (.sl 5 (x.graces.map Gr.c)), .d (dI x.art), .d (dI x.orn), .d (dI x.dyn), .d (.sl 2 (x.lyr.map Sy.c)), .d (dI x.stem), .d (dI x.beam)]) R R R R H4 R lb (by kernel_rfl))<|zn<|zs<|?_
 refine Ce 24 [7001] (by kernel_rfl) (by kernel_rfl) (by kernel_rfl) (by kernel_rfl) (by decide)<|yp (Ae (s':= .d (.agg [dI x.site,dI x.num,dI x.kind,dI x.v.log,dI x.v.dots, .sl 5 ((x.heads.map Hd.tie).map Hd.c), .sl 5 (x.graces.map Gr.c),dI x.art,dI x.orn,dI x.dyn, .sl 2 (x.lyr.map Sy.c),dI x.stem,dI x.beam])) (Ac (Ad R R A3 R lb)) (by kernel_rfl))<|?_
 refine yp (Aa R R K8)<|yp (Ae (s':= .d (.agg (Me.c p.m))) (Ac (Ad R R Bo R lb)) (by kernel_rfl))<|yp (Aa R R D5)<|yp (Ab R R Ai R R)<|ym R R<|yp (Aj R R R (by omega) (by omega))<|yp (Aa R R D5)<|yp (Ab R R Ai R R)<|ym R R<|yp (Aj R R R (by omega) (by omega))<|?_
 refine ChK.cons R (CStep.callS R ((Yw (x.tiedE) p.m (p.off+a) (p.off+t) hxf.tied hs1).lab 7001) R (Ex (by kernel_rfl)))<|yp (Ae (s':= .d (.agg (Ev.c x))) (Ac (Ad R R A3 R lb)) (by kernel_rfl))<|ChK.cons R (CStep.call R (O3 x hxf) R)<|yp (Aa R R K8)<|?_
 refine yp (Ae (s':= .d (.agg (Me.c p.m))) (Ac (Ad R R Bo R lb)) (by kernel_rfl))<|yp (Aa R R D5)<|yp (Ab R R Ai R R)<|ym R R<|yp (Aj R R R (by omega) (by omega))<|yp (Aa R R D5)<|yp (Ab R R Ai R R)<|ym R R<|yp (Aj R R R (by omega) (by omega))<|?_
 refine ChK.nil ⟨by kernel_rfl, ?_⟩
 refine XL.call1 R R (O2 (x.furV) p.m (p.off+t) (p.off+(a+w)) (Acl hxf) hs2) R<|?_
 refine XL.step R (A7 R D3 (.own R) (Src.sl (by omega)) (by simp only [List.length_append,List.length_map,Cn,List.length_take,List.length_drop,List.length_nil];unfold maxLen;omega) (by simp only [List.length_append,List.length_map,Cn,List.length_take,List.length_drop,List.length_nil];omega))<|zp (Ar R (by conv=>lhs;whnf))<|?_
 refine znr<|XL.step R (Bj 124 R Tryz.underlying22 B4 Bw R R (by omega) (by omega))<|zp (Aa R R Ax)<|zp (Ab R R Bk R R)<|zm R R<|zp (Ee R R B5 Bd.no (Bd.at R) (by omega) (by omega))<|XL.step R (A7 R D3 (.own R) (Src.sl (by omega)) (by unfold maxLen;simp;omega) (by simp;omega))<|zp (Ac (A4 R Br A1 R))<|?_
 refine XL.step R (A0 14 (l:= [.d (.v (.slice none 0 0)), .d (.v (.slice none 0 0))]) R A1 (by kernel_rfl))<|XL.step R (Ag (l':= [.own 124, .d (.v (.slice none 0 0))]) R R R R Bc R lb (by kernel_rfl))<|zn<|zs<|?_
 refine J1 3 9 [] (S.kill 124) 124 (Sj 124 (.row 60 13 ((v.evs.take k++C7 p t a w x).map Ev.c))) (by kernel_rfl) (by kernel_rfl) (by kernel_rfl) (by kernel_rfl) (by decide)<|ChMK.bf R (CStep.pure (Aa R R Ax)) (by conv=>lhs;whnf)<|?_
 refine ChMK.bf R (CStep.pure (Ab R R Bk R R)) (by conv=>lhs;whnf)<|?_
 refine ChMK.bf R (CStep.pure (Aw R (by conv=>lhs;whnf))) (by conv=>lhs;whnf)<|?_
 refine ChMK.mu R (Og (l2:=(v.evs.take k++C7 p t a w x).map Ev.c) R D3 (.own R) (Src.own R) (by simp only [List.length_append,List.length_map,Cn,List.length_take,List.length_drop,List.length_nil];unfold maxLen;omega) (by simp only [List.length_append,List.length_map,Cn,List.length_take,List.length_drop,List.length_nil];omega) (by first|(rw [←Z7 c91];simp only [List.map_append,List.nil_append,List.drop_zero])|(rw [←Z8 c91];simp only [List.map_append,List.nil_append,List.drop_zero])))<|?_
 refine ChMK.fr R R (CStep.pure (Aa R R Ax)) (CStep.pure (Aa R R Ax)) (by exact rfl)<|ChMK.fr R R (CStep.pure (Ab R R Bk R R)) (CStep.pure (Ab R R Bk R R)) (by exact rfl)<|ChMK.fr R R (CStep.pure (Aw R (by conv=>lhs;whnf))) (CStep.pure (Aw R (by conv=>lhs;whnf))) (by exact rfl)<|?_
 refine ChMK.fr R R (CStep.pure (Ae (s':= .d (dI (k1:Nat))) (Aj R R R (by omega) (by omega)) (sI (by omega)))) (CStep.pure (Ae (s':= .d (dI (k1:Nat))) (Aj R R R (by omega) (by omega)) (sI (by omega)))) (by exact rfl)<|?_
 refine ChMK.fr R R (CStep.pure (Ee R R B5 (Bd.at R) Bd.no (by omega) (Nat.le_refl _))) (CStep.pure (Ee R R B5 (Bd.at R) Bd.no (by omega) (Nat.le_refl _))) (by exact rfl)<|?_
 refine ChMK.nil ⟨⟨by kernel_rfl,by kernel_rfl,by kernel_rfl⟩, ?_⟩
 refine XL.step R (A7 R D3 (.own R) (Src.sl (by omega)) (by simp only [List.length_append,List.length_map,Cn,List.length_take,List.length_drop,List.length_nil];unfold maxLen;omega) (by simp only [List.length_append,List.length_map,Cn,List.length_take,List.length_drop,List.length_nil];omega))<|zp (Aa R R Ax)<|?_
 refine XL.step R (Ag (l':= [.own 124, .d (.v (.slice none 0 0))]) R R R R Vy R lb (by kernel_rfl))<|znr<|zp (Aa R R Bn)<|zp (Ab R R B1 R R)<|XL.call1 R R (J9 _ (by omega)) R<|zm R R<|zp (Aj R R R (by omega) (by omega))<|zp (Aw R (by conv=>lhs;whnf))<|?_
 refine zp (Ae (s':= .d (dI ((C7 p t a w x).length:Nat))) (My R R R Tryz.underlying22) (by first|(rw [←Z7 c91];simp only [List.length_append,List.length_map])|(rw [←Z8 c91];simp only [List.length_append,List.length_map])))<|zp (C9 R R R (by omega) (by omega))<|XL.call1 R R (We _ _ _ (by assumption) (by omega) (by omega)) R<|?_
 refine XL.call1 R R (Abg _ (by rw [List.length_map];omega)) R<|zp (Aa R R Bn)<|XL.step R (Ag (l':= [.own 124, .d (.sl 4 ((v.tups.map (Jj ((k:Nat)+1) (((C7 p t a w x).length:Nat) - 1))).map Tp.c))]) R R R R G9 R lb (by kernel_rfl))<|zn<|zs<|zr<|zp (Aa R R Ax)<|zp (Ab R R Bk R R)<|?_
 refine zp (Ae (s':= .d (dI ((v.evs.take k++C7 p t a w x++v.evs.drop k1).length:Nat))) (My R R R Tryz.underlying22) (by simp only [List.length_append,List.length_map,List.take_length]))<|zp (Bb R R R)<|zn<|?_
 refine zd R (fun c156=> ?_) (fun c156=> ?_)
 refine zr<|zp (Ae (s':= .d (.agg [.v (.slice none 0 0), .v (.slice none 0 0)])) (Ac (A4 R Br A1 R)) (by kernel_rfl))<|XL.step R (Ag (l':= [.d (.v (.slice none 0 0)), .d (.v (.slice none 0 0))]) R R R R Bc R lb (by kernel_rfl))<|za R R<|zn<|zt<|?_
 exact Bh R (RV.sub (RV.cells R R R An lb R) (.agg (.cons (.nil 13) (.cons (.nil 4) (.nil))))) (RV.tmp R R) (r2v ((Lr hc c18 (by omega)).trans ((Ft hat hne hx hw).trans (All hnd (by omega) (by omega) R (by rw [Te hck hnd hk1];exact c156)))))
 refine zi<|zr<|zp (Ac (Ad R R An R lb))<|XL.step R (Ag (l':= [.own 124, .d (.sl 4 ((v.tups.map (Jj ((k:Nat)+1) (((C7 p t a w x).length:Nat) - 1))).map Tp.c))]) R R R R Bc R lb (by kernel_rfl))<|za R R<|zn<|zt<|Bg (i:=124) R<|?_
 exact Bh R (RV.cells R R R An lb R) (RV.tmp R R) (by rw [Lr hc c18 (by omega),Ft hat hne hx hw,Alk hnd (by omega) (by omega) rfl (by rw [Te hck hnd hk1];exact c156),Te hck hnd hk1];simp only [Vo.c,List.map_append,List.take_length];rfl)
end Go.Proofs.YtcihalbakenleaaGreat
namespace Go.Proofs.YtcihalbakenleaaGreat
open Go.RowKit
theorem Ajj {v:Vo} {L:Int} (h:ckE v L=0):v.tups.length≤1000:=by have:=(Ki h).1.tups;omega
end Go.Proofs.YtcihalbakenleaaGreat
namespace Go.Proofs.YtcihalbakenleaaGreat
open Go.RowKit
theorem Au6 {l:List Int} (hp:∀x∈l,0<x) {j k:Nat} {x y:Int} (hjk:j<k) (hx:(Bl l)[j]? =some x) (hy:(Bl l)[k]? =some y):x<y:=by
 have h1:=Hc hx
 have h2:=Hc hy
 have hjl:j<l.length:=by have:=(List.getElem?_eq_some_iff.1 hx).1;rwa [Jd] at this
 obtain ⟨w,hw⟩:=Au hjl
 have h3:=K5 hp (j:=j+1) (k:=k) (by omega)
 rw [Bp hw,Hb] at h3
 have:=hp w (List.mem_of_getElem? hw)
 omega
theorem Jm {l:List Int} (hp:∀x∈l,0<x) {j:Nat} {x a:Int} (hx:(Bl l)[j]? =some x):x<a↔j<Bz (Bl l) a:=by
 have e:=(List.getElem?_eq_some_iff.1 hx).2
 constructor
 ·intro h
  rw [←Nat.not_le];intro hle
  have hjl:=(List.getElem?_eq_some_iff.1 hx).1
  have hlt:Bz (Bl l) a<(Bl l).length:=by omega
  have h1:decide (a≤(Bl l)[Bz (Bl l) a])=true:=List.findIdx_getElem (w:=hlt)
  obtain ⟨y,hy⟩:=Au hlt
  have hy2:(Bl l)[Bz (Bl l) a]=y:=(List.getElem?_eq_some_iff.1 hy).2
  rw [hy2] at h1
  have h1:=of_decide_eq_true h1
  rcases Nat.lt_or_eq_of_le hle with k|k
  ·have:=Au6 hp k hy hx;omega
  ·rw [k,hx] at hy;cases hy;omega
 ·intro h
  have:=List.not_of_lt_findIdx (p:=fun x=>decide (a≤x)) h
  rw [e] at this
  simpa using this
theorem W8 {l:List Int} (hp:∀x∈l,0<x) {a b:Int} (hab:a≤b):Bz (Bl l) a≤Bz (Bl l) b:=by
 rw [←Nat.not_lt];intro h
 obtain ⟨y,hy⟩:=Au (show Bz (Bl l) b<(Bl l).length from Nat.lt_of_lt_of_le h (I4 _ _))
 have h1:=(Jm hp hy (a:=a)).2 h
 have h2:=(Jm hp hy (a:=b)).1 (by omega)
 omega
theorem Wz {l:List Int} (hp:∀x∈l,0<x) {a b:Int} (hab:a≤b):Gz (Bl l) a b=Bz (Bl l) b:=by
 refine Oi (W8 hp hab) (I4 _ _) (fun j x h1 h2 hx=> ?_) ?_
 ·have h3:=(Jm hp hx (a:=b)).2 h2
  have h4:¬x<a:=fun h=>by have:=(Jm hp hx (a:=a)).1 h;omega
  exact decide_eq_true ⟨by omega,h3⟩
 ·by_cases c:Bz (Bl l) b=(Bl l).length
  ·exact .inl c
  ·obtain ⟨y,hy⟩:=Au (show Bz (Bl l) b<(Bl l).length by have:=I4 (Bl l) b;omega)
   refine .inr ⟨y,hy,decide_eq_false fun h=> ?_⟩
   have:=(Jm hp hy (a:=b)).1 h.2;omega
theorem X6 {v:Vo} {p:Pl} {t:Int} (hc:p.chk v=0) (hn:v.evs≠ []) (h:(Al v p t).2=0):(Al v p t).1.evs≠ []:=by
 obtain ⟨hme,hpb,hck⟩:=C6 hc
 rcases Aqz hc t with h|⟨h',_⟩|⟨k,a,w,x,hk,hw,ha,hat,hat2,hne,hd,h1,h2,hl,he⟩
 ·rw [h];exact hn
 ·exact absurd h h'
 ·rw [he]
  intro e
  have e2:v.evs.take k++C7 p t a w x++v.evs.drop (k+1)= []:=e
  have e3:C7 p t a w x= []:=by
   have:=List.append_eq_nil_iff.1 e2
   exact (List.append_eq_nil_iff.1 this.1).2
  have hxe:=(Ix hck).1 x (List.mem_of_getElem? hk)
  obtain ⟨_,q⟩:=X7 hxe h1 h2 (by rw [e3];exact Nat.zero_le _)
  have:=Lk hck w (List.mem_of_getElem? hw)
  rw [e3] at q
  have q2:(0:Int)=w:=q
  omega
structure RegOk (v:Vo) (p:Pl) (a b:Int) (d:Vo) (f l:Nat):Prop where
 hc:p.chk v=0
 ne:v.evs≠ []
 d2:d=(Al (Al v p a).1 p b).1
 e1:(Al v p a).2=0
 e2:(Al (Al v p a).1 p b).2=0
 c1:p.chk (Al v p a).1=0
 n1:(Al v p a).1.evs≠ []
 chk:p.chk d=0
 dne:d.evs≠ []
 fit:v.fit→d.fit
 fl:f≤l
 ll:l≤d.evs.length
 fe:f=Bz (Bl (ckL d p.len)) a
 le:l=Bz (Bl (ckL d p.len)) b
 no:∀t∈d.tups,¬Du t f l
 rng:0≤a∧a≤b∧b≤p.len
theorem At7 {v:Vo} {p:Pl} (hc:p.chk v=0) (h:¬v.absent):v.evs≠ []:=fun e=>h ⟨by rw [e];rfl,by rw [X9 (C6 hc).2.2 (by rw [e];rfl)];rfl⟩
theorem Mb (v:Vo) (p:Pl) (a b:Int):∃(d:Vo) (f l:Nat) (e:Int),Dl v p a b=(d,(f:Int),(l:Int),e)∧(e=0→RegOk v p a b d f l):=by
 by_cases c1:p.chk v≠0
 ·exact ⟨_,0,0,_,Apb c1,fun h=>absurd h c1⟩
 by_cases c2:v.absent
 ·exact ⟨_,0,0,_,Apa c1 c2,fun h=>by cases h⟩
 by_cases c3:a<0∨b<a∨p.len<b
 ·exact ⟨_,0,0,_,Ux c1 c2 c3,fun h=>by cases h⟩
 rw [E7 c1 c2 c3]
 by_cases c4:(Al v p a).2≠0
 ·exact ⟨_,0,0,_,Ao9 c4,fun h=>absurd h c4⟩
 by_cases c5:(Al (Al v p a).1 p b).2≠0
 ·exact ⟨_,0,0,_,Ao8 c4 c5,fun h=>absurd h c5⟩
 rw [F5 c4 c5]
 have hc0:p.chk v=0:=by omega
 have hn0:=At7 hc0 c2
 have hc1:=Mp (t:=a) hc0 (by omega)
 have hn1:=X6 (t:=a) hc0 hn0 (by omega)
 have hc2:=Mp (t:=b) hc1 (by omega)
 have hn2:=X6 (t:=b) hc1 hn1 (by omega)
 obtain ⟨d,hd⟩:∃d,d=(Al (Al v p a).1 p b).1:=⟨_,rfl⟩
 rw [←hd] at hc2 hn2 ⊢
 have hp:=Lk (C6 hc2).2.2
 have hl:=Wz hp (show a≤b by omega)
 by_cases c6:∃t∈d.tups,Du t (Bz (Bl (ckL d p.len)) a) (Gz (Bl (ckL d p.len)) a b)
 ·exact ⟨_,0,0,_,by rw [Sb,if_pos c6];rfl,fun h=>by cases h⟩
 ·refine ⟨d,Bz (Bl (ckL d p.len)) a,Gz (Bl (ckL d p.len)) a b,0,by rw [Sb,if_neg c6],fun _=> ?_⟩
  exact ⟨hc0, hn0, hd, by omega, by omega, hc1, hn1, hc2, hn2, fun hF => by rw [hd]; exact Om hc1 (Om hc0 hF (by omega)) (by omega), by rw [hl]; exact W8 hp (by omega),
   by have := Acc (Bl (ckL d p.len)) a b; rw [Jd, Ge (C6 hc2).2.2] at this; exact this.2, rfl, hl, fun t ht hs => c6 ⟨t, ht, hs⟩, by omega⟩
theorem Am0 {v:Vo} {p:Pl} {a b:Int} {d:Vo} {f l:Nat} {e:Int} (hE:Evs v.evs) (hF:v.fit) (h:Dl v p a b=(d,(f:Int),(l:Int),e)):XC Tryz.prog 83 [.agg (Vo.c v), .agg (Pl.c p),dI a,dI b] (fun r=>r= .tup [.agg (Vo.c d),dI (f:Nat),dI (l:Nat),dI e]):=by
 have:=Amz v p a b hE hF
 rw [h] at this
 exact this
def X8 (d:Vo) (f l:Nat):Vo:=⟨(d.evs.take l).drop f,Ci (fun t=>decide ((f:Int)≤t.first∧t.first<l)) (-f) d.tups⟩
def Oo (v:Vo) (p:Pl) (a b:Int):Vo × Int:=if (Dl v p a b).2.2.2≠0 then (⟨[], []⟩,(Dl v p a b).2.2.2) else (X8 (Dl v p a b).1 (Dl v p a b).2.1.toNat (Dl v p a b).2.2.1.toNat,0)
theorem Axr {v:Vo} {p:Pl} {a b:Int} {d:Vo} {f l:Nat} {e:Int} (h:Dl v p a b=(d,(f:Int),(l:Int),e)) (he:e≠0):Oo v p a b=(⟨[], []⟩,e):=by rw [Oo,h,if_pos he]
theorem Axq {v:Vo} {p:Pl} {a b:Int} {d:Vo} {f l:Nat} {e:Int} (h:Dl v p a b=(d,(f:Int),(l:Int),e)) (he:¬e≠0):Oo v p a b=(X8 d f l,0):=by rw [Oo,h,if_neg he];rfl
theorem Aq0 {d:Vo} {f l:Nat} (h:d.fit):(X8 d f l).fit:=by
 refine ⟨?_, ?_,fun e he=>h.ev e (List.mem_of_mem_take (List.mem_of_mem_drop he))⟩
 ·show ((d.evs.take l).drop f).length≤1000
  rw [List.length_drop,List.length_take];have:=h.evs;omega
 ·exact Nat.le_trans (Fp _ _ _) h.tups
theorem Av7 (v:Vo) (p:Pl) (a b:Int) (hE:Evs v.evs) (hF:v.fit):XC Tryz.prog 39 [.agg (Vo.c v), .agg (Pl.c p), .v (.int .i64 a), .v (.int .i64 b)] (fun r=>r= .tup [.agg (Vo.c (Oo v p a b).1),dI (Oo v p a b).2]):=by
 obtain ⟨d,f,l,e,hreg,hok⟩:=Mb v p a b
 refine Ao Ahm Tryz.func39 R R lb<|zr<|XL.step R (At 4 (l:= [.d (.sl 13 (v.evs.map Ev.c)), .d (.sl 4 (v.tups.map Tp.c))]) R R (by kernel_rfl))<|XL.step R (At 5 (l:= [.d (dI p.m.count), .d (dI p.m.unit), .d (dI p.m.g0), .d (dI p.m.g1), .d (dI p.m.g2), .d (dI p.m.g3), .d (dI p.m.g4), .d (dI p.m.g5), .d (dI p.off), .d (dI p.len)]) R R (by kernel_rfl))<|?_
 refine XL.step R (A0 8 (l:= [.d (.v (.slice none 0 0)), .d (.v (.slice none 0 0))]) R A1 (by kernel_rfl))<|za R R<|znr<|zp (Ae (s':= .d (.agg (Vo.c v))) (Ac (Ad R R An R lb)) (by kernel_rfl))<|zp (Ae (s':= .d (.agg (Pl.c p))) (Ac (Ad R R G7 R lb)) (by kernel_rfl))<|zm R R<|zm R R<|XL.call1 R R (Am0 hE hF hreg) R<|zm R R<|?_
 refine zp (A6 R R R)<|zp (A6 R R R)<|zp (A6 R R R)<|zp (A6 R R R)<|XL.step R (A0 10 (l:= [.d (.v (.slice none 0 0)), .d (.v (.slice none 0 0))]) R A1 (by kernel_rfl))<|XL.step R (A0 11 (l:= [.d (dI 0)]) R Eu (by kernel_rfl))<|XL.step R (A0 12 (l:= [.d (dI 0)]) R Eu (by kernel_rfl))<|?_
 refine XL.step R (Ag (l':= [.d (.sl 13 (d.evs.map Ev.c)), .d (.sl 4 (d.tups.map Tp.c))]) R R R R Bc R lb (by kernel_rfl))<|XL.step R (Ag (l':= [.d (dI (f:Nat))]) R R R R Cs R lb (by kernel_rfl))<|XL.step R (Ag (l':= [.d (dI (l:Nat))]) R R R R Cs R lb (by kernel_rfl))<|za R R<|zn<|zs<|zr<|zm R R<|zp (Be R R R)<|zn<|?_
 refine zd R (fun c26=> ?_) (fun c26=> ?_)
 refine zr<|zp (Ae (s':= .d (.agg [.v (.slice none 0 0), .v (.slice none 0 0)])) (Ac (A4 R Br A1 R)) (by kernel_rfl))<|zm R R<|XL.step R (Ag (l':= [.d (.v (.slice none 0 0)), .d (.v (.slice none 0 0))]) R R R R Bc R lb (by kernel_rfl))<|za R R<|zn<|zt<|?_
 exact Bh R (RV.sub (RV.cells R R R An lb R) (.agg (.cons (.nil 13) (.cons (.nil 4) (.nil))))) (RV.tmp R R) (r2v (Axr hreg c26))
 refine zi<|zs<|?_
 have hO:=hok (by omega)
 have hFd:=hO.fit hF
 obtain ⟨hsd,hdl⟩:=Ki (C6 hO.chk).2.2
 have hfl:=hO.fl
 have hll:=hO.ll
 have hdt:=hsd.tups
 have hcf:=Aq0 (f:=f) (l:=l) hFd
 refine Af (by kernel_rfl)<|zp (Aa R R Ax)<|zp (Ab R R Bk R R)<|zp (Ab R R Ai R R)<|zp (Ab R R Ai R R)<|zp (Ee R R B5 (Bd.at R) (Bd.at R) (by omega) (by omega))<|zp (Ae (s':= .d (.agg [.sl 13 (((d.evs.take (l:Nat)).drop (f:Nat)).map Ev.c), .v (.slice none 0 0)])) (Ac (A4 R Br A1 R)) (by kernel_rfl))<|?_
 refine XL.step R (A0 14 (l:= [.d (.v (.slice none 0 0)), .d (.v (.slice none 0 0))]) R A1 (by kernel_rfl))<|XL.step R (Ag (l':= [.d (.sl 13 (((d.evs.take (l:Nat)).drop (f:Nat)).map Ev.c)), .d (.v (.slice none 0 0))]) R R R R Bc R lb (by kernel_rfl))<|znr<|XL.freezeP 11 (ds:= [dI (f:Nat)]) R (by kernel_rfl) (by kernel_rfl)<|?_
 refine XL.freezeP 12 (ds:= [dI (l:Nat)]) R (by kernel_rfl) (by kernel_rfl)<|zp (Aa R R Bn)<|zp (Ab R R B1 R R)<|zp (Tg (pd:= []) (cd:= [_,_]) R R R)<|zp (Az R R Ai)<|zp (Awq R R (by omega) (by omega))<|?_
 refine XL.call1 R R (Rc d.tups 85 [.pt [dI (f:Nat)], .pt [dI (l:Nat)]] (fun t=>decide (((f:Nat):Int)≤t.first∧t.first<((l:Nat):Int))) (-(f:Nat)) (fun t _=>At4 t f l) (by omega) (fun t ht _=>by have:=hsd.bd t ht;omega)) rfl<|zp (Aa R R Bn)<|?_
 refine XL.step R (Ag (l':= [.d (.sl 13 (((d.evs.take (l:Nat)).drop (f:Nat)).map Ev.c)), .d (.sl 4 ((Ci (fun t=>decide (((f:Nat):Int)≤t.first∧t.first<((l:Nat):Int))) (-(f:Nat)) d.tups).map Tp.c))]) R R R R G9 R lb (by kernel_rfl))<|znr<|zp (Ae (s':= .d (.agg (Vo.c (X8 d f l)))) (Ac (Ad R R An R lb)) (by kernel_rfl))<|?_
 refine XL.call1 R R (Hs _ (by assumption)) R<|XL.step R (Ag (l':= [.d (.sl 13 ((X8 d f l).evs.map Ev.c)), .d (.sl 4 ((X8 d f l).tups.map Tp.c))]) R R R R Bc R lb (by kernel_rfl))<|za R R<|zn<|zt<|?_
 exact Bh R (RV.cells R R R An lb R) (RV.tmp R R) (r2v (Axq hreg c26))
end Go.Proofs.YtcihalbakenleaaGreat
namespace Go.Proofs.YtcihalbakenleaaGreat
open Go.RowKit
theorem Ais {v:Vo} {p:Pl} {t:Int} {q:Vo × Int} (hF:v.fit) (hc:p.chk v=0) (h:I0 v p t=q):XC Tryz.prog 17 [.agg (Vo.c v), .agg (Pl.c p),dI t] (fun r=>r= .tup [.agg (Vo.c q.1),dI q.2]):=by
 subst h;exact Akc v p t hF hc
theorem Aso {v:Vo} {L:Int} (h:ckE v L=0):XC Tryz.prog 33 [.agg (Vo.c v),dI L] (fun r=>r= .sl 1 (B8 (Bl (ckL v L)))):=by
 obtain ⟨h1,h2,h3⟩:=Tv h
 have:=Wd v L h2 h3
 rw [h1] at this
 exact this
def mn (k F:Nat):Int:=min (k:Int) (F:Int)
theorem Wr {k F:Nat} (h:k<F):mn k F+1=mn (k+1) F:=by unfold mn;omega
theorem Aae {k F:Nat} (h:¬k<F):mn k F=mn (k+1) F:=by unfold mn;omega
theorem Arl (k F:Nat):0≤mn k F∧mn k F≤k:=by unfold mn;omega
def inC (a f l m:Int):Int:=max 0 (min (a+m) l - max a f)
theorem Atn {a f l m:Int} (h:f≤a+m) (h2:a+m<l) (h0:0≤m):inC a f l m+1=inC a f l (m+1):=by unfold inC;omega
theorem An2 {a f l m:Int} (h:¬(f≤a+m∧a+m<l)) (h0:0≤m):inC a f l m=inC a f l (m+1):=by unfold inC;omega
theorem Avm (a f l m:Int) (h:0≤m):0≤inC a f l m∧inC a f l m≤m:=by unfold inC;omega
theorem An1 {t:Tp} {f l:Int} (h:1≤t.count):Du t f l↔0<inC t.first f l t.count∧inC t.first f l t.count<t.count:=by unfold Du inC;omega
theorem Aj7 (v:Vo) (p:Pl) (a b:Int) (hF:v.fit) (hc:p.chk v=0):XC Tryz.prog 86 [.agg (Vo.c v), .agg (Pl.c p), .v (.int .i64 a), .v (.int .i64 b)] (fun r=>r= .tup [.agg (Vo.c (Dl v p a b).1),dI (Dl v p a b).2.1,dI (Dl v p a b).2.2.1,dI (Dl v p a b).2.2.2]):=by
 refine Ao Agh Tryz.func86 R R lb<|zr<|XL.step R (At 4 (l:= [.d (.sl 13 (v.evs.map Ev.c)), .d (.sl 4 (v.tups.map Tp.c))]) R R (by kernel_rfl))<|XL.step R (At 5 (l:= [.d (dI p.m.count), .d (dI p.m.unit), .d (dI p.m.g0), .d (dI p.m.g1), .d (dI p.m.g2), .d (dI p.m.g3), .d (dI p.m.g4), .d (dI p.m.g5), .d (dI p.off), .d (dI p.len)]) R R (by kernel_rfl))<|?_
 refine XL.step R (A0 8 (l:= [.d (.v (.slice none 0 0)), .d (.v (.slice none 0 0))]) R A1 (by kernel_rfl))<|za R R<|za R R<|za R R<|zn<|zs<|zr<|zp (Aa R R Ax)<|zp (Ab R R Bk R R)<|XL.len R R R Tryz.underlying22 fun hl20=>zp (A5 R R R)<|zn<|?_
 refine zd R (fun c21=> ?_) (fun c21=> ?_)
 refine zr<|zp (Ae (s':= .d (.agg [.v (.slice none 0 0), .v (.slice none 0 0)])) (Ac (Ad R R An R lb)) (by kernel_rfl))<|XL.step R (Ag (l':= [.d (.v (.slice none 0 0)), .d (.v (.slice none 0 0))]) R R R R Bc R lb (by kernel_rfl))<|za R R<|za R R<|za R R<|zn<|zt<|?_
 exact Gl R (RV.sub (RV.cells R R R An lb R) (.agg (.cons (.nil 13) (.cons (.nil 4) (.nil))))) (RV.tmp R R) (RV.tmp R R) (RV.tmp R R) (r4v (Apa (by omega) ⟨by omega,by rw [X9 (C6 hc).2.2 (by omega)];rfl⟩))
 have hn0:v.evs≠ []:=fun h=>c21 (by rw [h];rfl)
 have hna:¬v.absent:=fun h=>hn0 (List.eq_nil_of_length_eq_zero (by have:=h.1;omega))
 refine zi<|zs<|zr<|zm R R<|zp (As R R R)<|zm R R<|?_
 refine XL.dec 25 R (fun g25=> ?_) (fun g25=> ?_)
 refine zk 3 R<|zq R R R<|zm R R<|zk 4 R<|zq R R R<|zn<|Aq (by kernel_rfl) R<|zr<|zp (Ae (s':= .d (.agg [.v (.slice none 0 0), .v (.slice none 0 0)])) (Ac (Ad R R An R lb)) (by kernel_rfl))<|XL.step R (Ag (l':= [.d (.v (.slice none 0 0)), .d (.v (.slice none 0 0))]) R R R R Bc R lb (by kernel_rfl))<|za R R<|za R R<|za R R<|zn<|?_
 refine zt<|?_
 exact Gl R (RV.sub (RV.cells R R R An lb R) (.agg (.cons (.nil 13) (.cons (.nil 4) (.nil))))) (RV.tmp R R) (RV.tmp R R) (RV.tmp R R) (r4v (Ux (by omega) hna (by omega)))
 refine zm R R<|zm R R<|zp (As R R R)<|zq R R R<|zm R R<|?_
 refine XL.dec 30 R (fun g30=> ?_) (fun g30=> ?_)
 refine zk 4 R<|zq R R R<|zn<|Aq (by kernel_rfl) R<|zr<|zp (Ae (s':= .d (.agg [.v (.slice none 0 0), .v (.slice none 0 0)])) (Ac (Ad R R An R lb)) (by kernel_rfl))<|XL.step R (Ag (l':= [.d (.v (.slice none 0 0)), .d (.v (.slice none 0 0))]) R R R R Bc R lb (by kernel_rfl))<|za R R<|za R R<|za R R<|zn<|zt<|?_
 exact Gl R (RV.sub (RV.cells R R R An lb R) (.agg (.cons (.nil 13) (.cons (.nil 4) (.nil))))) (RV.tmp R R) (RV.tmp R R) (RV.tmp R R) (r4v (Ux (by omega) hna (by omega)))
 refine zm R R<|zp (Aa R R Jl)<|zp (Ab R R Ai R R)<|zp (Bb R R R)<|zq R R R<|zn<|?_
 refine zd R (fun c35=> ?_) (fun c35=> ?_)
 refine zr<|zp (Ae (s':= .d (.agg [.v (.slice none 0 0), .v (.slice none 0 0)])) (Ac (Ad R R An R lb)) (by kernel_rfl))<|XL.step R (Ag (l':= [.d (.v (.slice none 0 0)), .d (.v (.slice none 0 0))]) R R R R Bc R lb (by kernel_rfl))<|za R R<|za R R<|za R R<|zn<|zt<|?_
 exact Gl R (RV.sub (RV.cells R R R An lb R) (.agg (.cons (.nil 13) (.cons (.nil 4) (.nil))))) (RV.tmp R R) (RV.tmp R R) (RV.tmp R R) (r4v (Ux (by omega) hna (by omega)))
 refine zi<|zs<|zs<|?_
 have hD1:I0 v p a=Al v p a:=Lr hc c21 (by omega)
 refine Af (by kernel_rfl)<|zp (Ae (s':= .d (.agg (Vo.c v))) (Ac (Ad R R An R lb)) (by kernel_rfl))<|zp (Ae (s':= .d (.agg (Pl.c p))) (Ac (Ad R R Qk R lb)) (by kernel_rfl))<|zm R R<|XL.call1 R R (Ais hF hc hD1) R<|zm R R<|zp (A6 R R R)<|zp (A6 R R R)<|?_
 refine XL.step R (Ag (l':= [.d (.sl 13 (((Al v p a).1).evs.map Ev.c)), .d (.sl 4 (((Al v p a).1).tups.map Tp.c))]) R R R R Bc R lb (by kernel_rfl))<|za R R<|znr<|zm R R<|zp (Be R R R)<|zn<|?_
 refine zd R (fun c45=> ?_) (fun c45=> ?_)
 refine zr<|zp (Ae (s':= .d (.agg [.v (.slice none 0 0), .v (.slice none 0 0)])) (Ac (A4 R Br A1 R)) (by kernel_rfl))<|zm R R<|XL.step R (Ag (l':= [.d (.v (.slice none 0 0)), .d (.v (.slice none 0 0))]) R R R R Bc R lb (by kernel_rfl))<|za R R<|za R R<|za R R<|zn<|zt<|?_
 exact Gl R (RV.sub (RV.cells R R R An lb R) (.agg (.cons (.nil 13) (.cons (.nil 4) (.nil))))) (RV.tmp R R) (RV.tmp R R) (RV.tmp R R) (r4v ((E7 (by omega) hna (by omega)).trans (Ao9 c45)))
 refine zi<|zs<|zs<|?_
 have hc1:=Mp (t:=a) hc (by omega)
 have hF1:=Om (t:=a) hc hF (by omega)
 have hn1:=X6 (t:=a) hc hn0 (by omega)
 have hD2:I0 (Al v p a).1 p b=Al (Al v p a).1 p b:=Lr hc1 (fun h=>hn1 (List.eq_nil_of_length_eq_zero (by omega))) (by omega)
 refine Af (by kernel_rfl)<|zp (Ae (s':= .d (.agg (Vo.c (Al v p a).1))) (Ac (Ad R R An R lb)) (by kernel_rfl))<|zp (Ae (s':= .d (.agg (Pl.c p))) (Ac (Ad R R Qk R lb)) (by kernel_rfl))<|zm R R<|XL.call1 R R (Ais hF1 hc1 hD2) R<|zm R R<|zp (A6 R R R)<|zp (A6 R R R)<|?_
 refine XL.step R (Ag (l':= [.d (.sl 13 (((Al (Al v p a).1 p b).1).evs.map Ev.c)), .d (.sl 4 (((Al (Al v p a).1 p b).1).tups.map Tp.c))]) R R R R Bc R lb (by kernel_rfl))<|za R R<|znr<|zm R R<|zp (Be R R R)<|zn<|?_
 refine zd R (fun c56=> ?_) (fun c56=> ?_)
 refine zr<|zp (Ae (s':= .d (.agg [.v (.slice none 0 0), .v (.slice none 0 0)])) (Ac (A4 R Br A1 R)) (by kernel_rfl))<|zm R R<|XL.step R (Ag (l':= [.d (.v (.slice none 0 0)), .d (.v (.slice none 0 0))]) R R R R Bc R lb (by kernel_rfl))<|za R R<|za R R<|za R R<|zn<|zt<|?_
 exact Gl R (RV.sub (RV.cells R R R An lb R) (.agg (.cons (.nil 13) (.cons (.nil 4) (.nil))))) (RV.tmp R R) (RV.tmp R R) (RV.tmp R R) (r4v ((E7 (by omega) hna (by omega)).trans (Ao8 c45 c56)))
 refine zi<|zs<|?_
 have hc2:=Mp (t:=b) hc1 (by omega)
 have hck2:=(C6 hc2).2.2
 have hol:=Jd (ckL (Al (Al v p a).1 p b).1 p.len)
 have hN:=Je (Al (Al v p a).1 p b).1 p.len
 have hNl:=hN.len
 have hpp:=Lk hck2
 have hfa:=I4 (Bl (ckL (Al (Al v p a).1 p b).1 p.len)) a
 have hfb:=I4 (Bl (ckL (Al (Al v p a).1 p b).1 p.len)) b
 have hlf:=Wz hpp (show a≤b by omega)
 obtain ⟨hs2,_⟩:=Ki hck2
 have htl:=hs2.tups
 have hT2:=Aia hck2
 refine Af (by kernel_rfl)<|zp (Ae (s':= .d (.agg (Vo.c (Al (Al v p a).1 p b).1))) (Ac (Ad R R An R lb)) (by kernel_rfl))<|zp (Aa R R Jl)<|zp (Ab R R Ai R R)<|XL.call1 R R (Aso hck2) R<|za R R<|zn<|zs<|zr<|za R R<|zn<|Ah<|?_
 refine Ay (α:=Nat) (fun k=>k≤(Bl (ckL (Al (Al v p a).1 p b).1 p.len)).length) (fun k=>mkF [(2, .d (dI a)),(3, .d (dI b)),(8, .ptr 8 0 0),(9, .d (dI (mn k (Bz (Bl (ckL (Al (Al v p a).1 p b).1 p.len)) a)))),(10, .d (dI (mn k (Bz (Bl (ckL (Al (Al v p a).1 p b).1 p.len)) b)))),(11, .d (dI (Al (Al v p a).1 p b).2)),(12, .d (.sl 1 (B8 (Bl (ckL (Al (Al v p a).1 p b).1 p.len))))),(13, .d (dI k))]) (fun k=>mkH [(8, .box ((Vo.c (Al (Al v p a).1 p b).1).map S.d))]) (fun k=>(Bl (ckL (Al (Al v p a).1 p b).1 p.len)).length - k) (0) (Nat.zero_le _) ?_ ?_ ?_
 exact fz ⟨sr,sr,sr, .same (sI (by unfold mn;omega)), .same (sI (by unfold mn;omega)),sr,sr,sr,trivial⟩
 exact gz ⟨R,trivial⟩
 intro k hk0
 refine zs<|zr<|zm R R<|zm R R<|XL.len R R R Tryz.underlying64 fun hl65=>zp (As R R R)<|zn<|?_
 refine zd R (fun c66=> ?_) (fun c66=> ?_)
 have hk0a:k<(Bl (ckL (Al (Al v p a).1 p b).1 p.len)).length:=by omega
 obtain ⟨x0,hx0⟩:=Au hk0a
 have hqa:=Jm hpp hx0 (a:=a)
 have hqb:=Jm hpp hx0 (a:=b)
 have hma:=Arl k (Bz (Bl (ckL (Al (Al v p a).1 p b).1 p.len)) a)
 have hmb:=Arl k (Bz (Bl (ckL (Al (Al v p a).1 p b).1 p.len)) b)
 refine zi<|zs<|Ah<|zs<|zr<|zm R R<|zm R R<|zp (Am R R R C5 (hx0))<|zp (Az R R Ai)<|zm R R<|zp (As R R R)<|zn<|?_
 refine zd R (fun c74=> ?_) (fun c74=> ?_)
 refine Af (by kernel_rfl)<|zm R R<|zp (Aj R R R (by omega) (by omega))<|za R R<|znr<|zm R R<|zm R R<|zp (Am R R R C5 (hx0))<|zp (Az R R Ai)<|zm R R<|zp (As R R R)<|zn<|?_
 refine zd R (fun c82=> ?_) (fun c82=> ?_)
 refine Af (by kernel_rfl)<|zm R R<|zp (Aj R R R (by omega) (by omega))<|za R R<|zn<|Af (by kernel_rfl)<|zm R R<|zp (Aj R R R (by omega) (by omega))<|za R R<|zn<|?_
 exact Ak (k+1) (by omega) (by omega) (fz ⟨sr,sr,sr, .same (sI (Wr (hqa.1 c74))), .same (sI (Wr (hqb.1 c82))),sr,sr,sr,trivial⟩) (gz ⟨R,trivial⟩)
 refine zi<|Af (by kernel_rfl)<|zm R R<|zp (Aj R R R (by omega) (by omega))<|za R R<|zn<|?_
 exact Ak (k+1) (by omega) (by omega) (fz ⟨sr,sr,sr, .same (sI (Wr (hqa.1 c74))), .same (sI (Aae (fun h=>c82 (hqb.2 h)))),sr,sr,sr,trivial⟩) (gz ⟨R,trivial⟩)
 refine zi<|zr<|zm R R<|zm R R<|zp (Am R R R C5 (hx0))<|zp (Az R R Ai)<|zm R R<|zp (As R R R)<|zn<|?_
 refine zd R (fun c82=> ?_) (fun c82=> ?_)
 refine Af (by kernel_rfl)<|zm R R<|zp (Aj R R R (by omega) (by omega))<|za R R<|zn<|Af (by kernel_rfl)<|zm R R<|zp (Aj R R R (by omega) (by omega))<|za R R<|zn<|?_
 exact Ak (k+1) (by omega) (by omega) (fz ⟨sr,sr,sr, .same (sI (Aae (fun h=>c74 (hqa.2 h)))), .same (sI (Wr (hqb.1 c82))),sr,sr,sr,trivial⟩) (gz ⟨R,trivial⟩)
 refine zi<|Af (by kernel_rfl)<|zm R R<|zp (Aj R R R (by omega) (by omega))<|za R R<|zn<|?_
 exact Ak (k+1) (by omega) (by omega) (fz ⟨sr,sr,sr, .same (sI (Aae (fun h=>c74 (hqa.2 h)))), .same (sI (Aae (fun h=>c82 (hqb.2 h)))),sr,sr,sr,trivial⟩) (gz ⟨R,trivial⟩)
 have hk0b:k=(Bl (ckL (Al (Al v p a).1 p b).1 p.len)).length:=by omega
 have hke:k=(Bl (ckL (Al (Al v p a).1 p b).1 p.len)).length:=by omega
 refine Ap<|zs<|zr<|za R R<|zn<|Ah<|?_
 refine Ay (α:=Nat) (fun j=>j≤(Al (Al v p a).1 p b).1.tups.length∧∀(i:Nat) t,i<j→(Al (Al v p a).1 p b).1.tups[i]? =some t→¬Du t (Bz (Bl (ckL (Al (Al v p a).1 p b).1 p.len)) a) (Bz (Bl (ckL (Al (Al v p a).1 p b).1 p.len)) b)) (fun j=>mkF [(8, .ptr 8 0 0),(9, .d (dI ((Bz (Bl (ckL (Al (Al v p a).1 p b).1 p.len)) a):Nat))),(10, .d (dI ((Bz (Bl (ckL (Al (Al v p a).1 p b).1 p.len)) b):Nat))),(14, .d (dI j))]) (fun j=>mkH [(8, .box ((Vo.c (Al (Al v p a).1 p b).1).map S.d))]) (fun j=>(((Al (Al v p a).1 p b).1).tups).length - j) (0) (⟨Nat.zero_le _,fun i t hi=>absurd hi (Nat.not_lt_zero _)⟩) ?_ ?_ ?_
 exact fz ⟨sr, .same (sI (by unfold mn;omega)), .same (sI (by unfold mn;omega)),sr,trivial⟩
 exact gz ⟨R,trivial⟩
 intro j hk2
 obtain ⟨hk,hno⟩:=hk2
 refine zs<|zr<|zm R R<|zp (Aa R R Bn)<|zp (Ab R R B1 R R)<|XL.len R R R Tryz.underlying23 fun hl88=>zp (As R R R)<|zn<|?_
 refine zd R (fun c89=> ?_) (fun c89=> ?_)
 have hk2a:j<(((Al (Al v p a).1 p b).1).tups).length:=by omega
 obtain ⟨x2,hx2⟩:=Au hk2a
 have hok:=hT2 x2 (List.mem_of_getElem? hx2)
 unfold Tp.ok at hok
 have hst:=An1 (t:=x2) (f:=(Bz (Bl (ckL (Al (Al v p a).1 p b).1 p.len)) a)) (l:=(Bz (Bl (ckL (Al (Al v p a).1 p b).1 p.len)) b)) (by omega)
 refine zi<|zs<|Ah<|zr<|za R R<|znr<|zp (Aa R R Bn)<|zp (Ab R R B1 R R)<|zm R R<|zp (Am R R R D9 (hx2))<|zp (Ae (s':= .d (.agg (Tp.c x2))) (Av R R Cb lb) (by kernel_rfl))<|XL.step R (A0 16 (l:= [.d (dI 0), .d (dI 0), .d (dI 0), .d (dI 0)]) R Db (by kernel_rfl))<|?_
 refine XL.step R (Ag (l':= [.d (dI x2.first), .d (dI x2.count), .d (dI x2.actual), .d (dI x2.normal)]) R R R R Ej R lb (by kernel_rfl))<|zn<|zs<|zr<|zp (Aa R R Bv)<|zp (Ab R R Ai R R)<|za R R<|zn<|Ah<|?_
 refine Ay (α:=Nat) (fun m=>(m:Int)≤x2.count) (fun m=>mkF [(8, .ptr 8 0 0),(9, .d (dI ((Bz (Bl (ckL (Al (Al v p a).1 p b).1 p.len)) a):Nat))),(10, .d (dI ((Bz (Bl (ckL (Al (Al v p a).1 p b).1 p.len)) b):Nat))),(14, .d (dI j)),(15, .d (dI (inC x2.first (Bz (Bl (ckL (Al (Al v p a).1 p b).1 p.len)) a) (Bz (Bl (ckL (Al (Al v p a).1 p b).1 p.len)) b) (m:Nat)))),(16, .ptr 16 0 0),(17, .d (dI (x2.first+(m:Nat))))]) (fun m=>mkH [(8, .box ((Vo.c (Al (Al v p a).1 p b).1).map S.d)),(16, .box ((Tp.c x2).map S.d))]) (fun m=>x2.count.toNat - m) (0) (by omega) ?_ ?_ ?_
 exact fz ⟨sr,sr,sr,sr, .same (sI (by unfold inC;omega)),sr, .same (sI (by omega)),trivial⟩
 exact gz ⟨R,R,trivial⟩
 intro m hk4
 have hib:=Avm x2.first (Bz (Bl (ckL (Al (Al v p a).1 p b).1 p.len)) a) (Bz (Bl (ckL (Al (Al v p a).1 p b).1 p.len)) b) m (by omega)
 refine zs<|zr<|zm R R<|zp (Aa R R Bv)<|zp (Ab R R Ai R R)<|zp (Aa R R Dn)<|zp (Ab R R Ai R R)<|zp (Aj R R R (by omega) (by omega))<|zp (As R R R)<|zn<|?_
 refine zd R (fun c105=> ?_) (fun c105=> ?_)
 refine zi<|zs<|Ah<|zr<|zm R R<|zm R R<|zp (Dr R R R)<|zm R R<|?_
 refine XL.dec 111 R (fun g111=> ?_) (fun g111=> ?_)
 refine zm R R<|zm R R<|zp (As R R R)<|zq R R R<|zn<|?_
 refine zd R (fun c115=> ?_) (fun c115=> ?_)
 refine Af (by kernel_rfl)<|zm R R<|zp (Aj R R R (by omega) (by omega))<|za R R<|zn<|Af (by kernel_rfl)<|zm R R<|zp (Aj R R R (by omega) (by omega))<|za R R<|zn<|?_
 exact Ak (m+1) (by omega) (by omega) (fz ⟨sr,sr,sr,sr, .same (sI (Atn (by omega) (by omega) (by omega))),sr, .same (sI (by omega)),trivial⟩) (gz ⟨R,R,trivial⟩)
 refine zi<|Af (by kernel_rfl)<|zm R R<|zp (Aj R R R (by omega) (by omega))<|za R R<|zn<|?_
 exact Ak (m+1) (by omega) (by omega) (fz ⟨sr,sr,sr,sr, .same (sI (An2 (by omega) (by omega))),sr, .same (sI (by omega)),trivial⟩) (gz ⟨R,R,trivial⟩)
 refine zk 3 R<|zq R R R<|zn<|A9 (by kernel_rfl) R<|zi<|Af (by kernel_rfl)<|zm R R<|zp (Aj R R R (by omega) (by omega))<|za R R<|zn<|?_
 exact Ak (m+1) (by omega) (by omega) (fz ⟨sr,sr,sr,sr, .same (sI (An2 (by omega) (by omega))),sr, .same (sI (by omega)),trivial⟩) (gz ⟨R,R,trivial⟩)
 have hme:(m:Int)=x2.count:=by omega
 rw [hme] at hib
 rw [hme]
 refine Ap<|zr<|zm R R<|zp (Bb R R R)<|zm R R<|?_
 refine XL.dec 120 R (fun g120=> ?_) (fun g120=> ?_)
 refine zm R R<|zp (Aa R R Dn)<|zp (Ab R R Ai R R)<|zp (As R R R)<|zq R R R<|zn<|?_
 refine zd R (fun c125=> ?_) (fun c125=> ?_)
 refine zr<|zp (Ae (s':= .d (.agg [.v (.slice none 0 0), .v (.slice none 0 0)])) (Ac (A4 R Br A1 R)) (by kernel_rfl))<|XL.step R (Ag (l':= [.d (.v (.slice none 0 0)), .d (.v (.slice none 0 0))]) R R R R Bc R lb (by kernel_rfl))<|za R R<|za R R<|za R R<|zn<|zt<|?_
 exact Gl R (RV.sub (RV.cells R R R An lb R) (.agg (.cons (.nil 13) (.cons (.nil 4) (.nil))))) (RV.tmp R R) (RV.tmp R R) (RV.tmp R R) (by first|exact r4v ((E7 (by omega) hna (by omega)).trans ((F5 c45 c56).trans (Lq hx2 (by rw [hlf];rw [hst];omega))))|exact r4v ((E7 (by omega) hna (by omega)).trans ((F5 c45 c56).trans ((Lp (fun i t ht=>by rw [hlf];exact hno i t (by have:=(List.getElem?_eq_some_iff.1 ht).1;omega) ht)).trans (by rw [hlf])))))
 refine zi<|Af (by kernel_rfl)<|zm R R<|zp (Aj R R R (by omega) (by omega))<|za R R<|zn<|?_
 exact Ak (j+1) (⟨by omega,fun i t hi ht=>by by_cases e:i=j;(· subst e;rw [hx2] at ht;cases ht;rw [hst];omega);(· exact hno i t (by omega) ht)⟩) (by omega) (fz ⟨sr,sr,sr,sr,trivial⟩) (gz ⟨rfl,trivial⟩)
 refine zk 4 R<|zq R R R<|zn<|A9 (by kernel_rfl) R<|zi<|Af (by kernel_rfl)<|zm R R<|zp (Aj R R R (by omega) (by omega))<|za R R<|zn<|?_
 exact Ak (j+1) (⟨by omega,fun i t hi ht=>by by_cases e:i=j;(· subst e;rw [hx2] at ht;cases ht;rw [hst];omega);(· exact hno i t (by omega) ht)⟩) (by omega) (fz ⟨sr,sr,sr,sr,trivial⟩) (gz ⟨rfl,trivial⟩)
 have hk2b:j=(((Al (Al v p a).1 p b).1).tups).length:=by omega
 refine Ap<|zr<|zp (Ae (s':= .d (.agg (Vo.c (Al (Al v p a).1 p b).1))) (Ac (Ad R R An R lb)) (by kernel_rfl))<|zm R R<|zm R R<|XL.step R (Ag (l':= [.d (.sl 13 (((Al (Al v p a).1 p b).1).evs.map Ev.c)), .d (.sl 4 (((Al (Al v p a).1 p b).1).tups.map Tp.c))]) R R R R Bc R lb (by kernel_rfl))<|za R R<|za R R<|za R R<|zn<|zt<|?_
 exact Gl R (RV.cells R R R An lb R) (RV.tmp R R) (RV.tmp R R) (RV.tmp R R) (by first|exact r4v ((E7 (by omega) hna (by omega)).trans ((F5 c45 c56).trans (Lq hx2 (by rw [hlf];rw [hst];omega))))|exact r4v ((E7 (by omega) hna (by omega)).trans ((F5 c45 c56).trans ((Lp (fun i t ht=>by rw [hlf];exact hno i t (by have:=(List.getElem?_eq_some_iff.1 ht).1;omega) ht)).trans (by rw [hlf])))))
end Go.Proofs.YtcihalbakenleaaGreat
namespace Go.Proofs.YtcihalbakenleaaGreat
open Go.RowKit
theorem Aio {v:Vo} {p:Pl} {a b:Int} {d:Vo} {f l:Nat} {e:Int} (hF:v.fit) (hc:p.chk v=0) (h:Dl v p a b=(d,(f:Int),(l:Int),e)):XC Tryz.prog 86 [.agg (Vo.c v), .agg (Pl.c p),dI a,dI b] (fun r=>r= .tup [.agg (Vo.c d),dI (f:Nat),dI (l:Nat),dI e]):=by
 have:=Aj7 v p a b hF hc
 rw [h] at this
 exact this
end Go.Proofs.YtcihalbakenleaaGreat
namespace Go.Proofs.YtcihalbakenleaaGreat
def Ev.plainR (y:Ev) (s:Int):Prop:=y.kind=1∧(∀h∈y.heads,h.sh=0)∧y.graces= []∧y.art=0∧y.orn=0∧y.dyn=0∧y.lyr= []∧y.stem=s∧y.beam=0
def Ark (h:Hd):Pit × Bool:=(h.p,h.tied)
def pSh (h:Hd):Pit × Int:=(h.p,h.sh)
structure LikeY (y y':Ev):Prop where
 kind:y'.kind=y.kind
 heads:y.heads.map pSh=y'.heads.map pSh
 graces:y'.graces=y.graces
 art:y'.art=y.art
 orn:y'.orn=y.orn
 dyn:y'.dyn=y.dyn
 lyr:y'.lyr=y.lyr
 stem:y'.stem=y.stem
 beam:y'.beam=y.beam
section
variable {v:Vo} {i n:Nat} {l:List Ev} (hok:∀t∈v.tups,t.ok) (hn:0<n) (hf:∀m,i≤m→m<i+n→∀t∈v.tups,¬t.has m)
include hok hn hf
end
def bd (v:Vo):Nat→Nat
 |0=>0
 |k+1=>Bu v (bd v k)
def Bnd (v:Vo) (p:Pl) (i:Nat):Prop:=∃K,bd v K=i∧∀k,k<K→bd v k<v.evs.length∧¬smJ p (smA v p (bd v k)) (smA v p (bd v (k+1))) (bd v (k+1) - bd v k)
structure RunJ (v:Vo) (p:Pl) (i:Nat) (x y:Ev) (vs:List Val) (js:List Ev) (w:Vo):Prop where
 we:w=A8 v i (Bu v i - i) ⟨js, []⟩
 n1:i+1<Bu v i
 nl:Bu v i≤v.evs.length
 jl:js.length=vs.length
 j0:0<js.length
 jn:js.length<Bu v i - i
 jg:∀m,m<js.length→∃a o,vs[m]? =some a∧js[m]? =some ((Fg (x.reh (Gw x.heads y.heads)) vs.length false m a).reid o)
 sil:x.kind=1∨x.silent
 ks:y.kind=x.kind
 ys:x.kind≠1→y.silent
 hs:(Gw x.heads y.heads).map Ark=y.heads.map Ark
 fr:∀m,i≤m→m<Bu v i→∀t∈v.tups,¬t.has m
 ok:∀t∈v.tups,t.ok
 ck:ckE w p.len=0
 vk:ckE v p.len=0
 lo:∀m,m≤i→smA w p m=smA v p m
 hi:smA w p (i+js.length)=smA v p (Bu v i)
section
variable {v w:Vo} {p:Pl} {i:Nat} {x y:Ev} {vs:List Val} {js:List Ev} (hx:v.evs[i]? =some x) (h:RunJ v p i x y vs js w)
include hx h
variable (hy:v.evs[Bu v i - 1]? =some y)
include hy
end
end Go.Proofs.YtcihalbakenleaaGreat
namespace Go.Proofs.YtcihalbakenleaaGreat
open Go.RowKit
def delT (a c:Int) (t:Tp):Tp:=if a+c≤t.first then t.mv (-c) else t
def delN (a c e:Int):Int:=if e≤a then e else if e≤a+c then a else e - c
def delC (t:Tp) (e:Int):Int:=max 0 (min (e - t.first) t.count)
def delF (a c:Int) (t:Tp) (e:Int):Int:=if t.first<e then (if a+c≤t.first then t.first - c else t.first) else 0
end Go.Proofs.YtcihalbakenleaaGreat
namespace Go.Proofs.YtcihalbakenleaaGreat
open Go.RowKit
def Ev.folC (a b:Ev) (s:Int):Prop:=a.heads.length=b.heads.length∧b.graces= []∧b.lyr= []∧b.art=0∧b.orn=0∧b.dyn=0∧b.beam=0∧b.stem=s∧∀(j:Nat) (x y:Hd),a.heads[j]? =some x→b.heads[j]? =some y→x.tied=true∧x.p=y.p∧y.sh=0
def Ev.fol (a b:Ev) (s:Int):Prop:=a.kind=b.kind∧a.kind≠3∧(a.kind≠1→a.dyn=0∧a.art=0∧b.dyn=0∧b.art=0)∧(a.kind=1→a.folC b s)
open Classical in
noncomputable def Ev.folB (a b:Ev) (s:Int):Bool:=decide (a.fol b s)
end Go.Proofs.YtcihalbakenleaaGreat
namespace Go.Proofs.YtcihalbakenleaaGreat
open Go.RowKit
structure SimR (v:Vo) (p:Pl) (z:(Vo × Nat) × Nat):Prop where
 smi:SmI v p z.1
 k:z.2≤v.evs.length
 ev:z.1.1.evs.drop z.1.2=v.evs.drop z.2
 ls:(ckL z.1.1 p.len).drop z.1.2=(ckL v p.len).drop z.2
 at0:smA z.1.1 p z.1.2=smA v p z.2
 fr:∀m:Nat,(∀t∈z.1.1.tups,¬t.has ((z.1.2+m:Nat):Int))↔∀t∈v.tups,¬t.has ((z.2+m:Nat):Int)
section
variable {v:Vo} {p:Pl} {z:(Vo × Nat) × Nat} (h:SimR v p z)
include h
end
theorem Ane {l:List Int} {k:Nat} (h:k<l.length):(Bl l)[k]? =some (tot (l.take k)):=by
 obtain ⟨x,hx⟩:∃x,(Bl l)[k]? =some x:=Au (by rw [Jd];exact h)
 rw [hx,Hc hx]
end Go.Proofs.YtcihalbakenleaaGreat
namespace Go.Proofs.YtcihalbakenleaaGreat
open Go.RowKit
def Lv (l:List Hd) (q:Pit):Bool:=l.any fun o=>decide (o.p=q)
def Hl (y:Ev) (h:Hd):Hd:=⟨h.p,h.tied && (decide (y.kind=1) && Lv y.heads h.p),h.sh⟩
def N3 (x y:Ev):Ev:=x.reh (x.heads.map (Hl y))
def B9 (l:List Ev) (i:Int):List Ev:=if i<0 then l else match l[i.toNat]?,l[i.toNat+1]? with
 |some x,some y=>l.set i.toNat (N3 x y)
 |_,_=>l
theorem J6 {l:List Ev} {i:Int} (h:i<0∨(l.length:Int)≤i+1):B9 l i=l:=by
 unfold B9
 split
 ·rfl
 ·rw [List.getElem?_eq_none (show l.length≤i.toNat+1 by omega)]
  cases l[i.toNat]? <;>rfl
theorem R6 {l:List Ev} {i:Nat} {x y:Ev} (hx:l[i]? =some x) (hy:l[i+1]? =some y):B9 l i=l.set i (N3 x y):=by
 unfold B9
 rw [if_neg (by omega)]
 simp only [Int.toNat_natCast,hx,hy]
theorem Lm (l:List Ev) (i:Int):(B9 l i).length=l.length:=by
 unfold B9
 split
 ·rfl
 ·split
  ·rw [List.length_set]
  ·rfl
theorem Ao4 {x y:Ev} (h:x.fit):(N3 x y).fit:=⟨by show (x.heads.map (Hl y)).length≤1000;rw [List.length_map];exact h.1,h.2⟩
theorem Ln {l:List Ev} (h:∀e∈l,e.fit) (i:Int):∀e∈B9 l i,e.fit:=by
 unfold B9
 split
 ·exact h
 ·split
  ·rename_i x y hx hy
   intro e he
   rcases List.mem_or_eq_of_mem_set he with k|k
   ·exact h e k
   ·rw [k];exact Ao4 (h x (List.mem_of_getElem? hx))
  ·exact h
def evS (x:Ev):List S:=(Ev.c x).map S.d
def F4 (l:List Ev):List (List S):=(l.map Ev.c).map (·.map S.d)
theorem R8 (l:List Ev):(F4 l).length=l.length:=by rw [F4,List.length_map,List.length_map]
theorem R9 {l:List Ev} {k:Nat} {x:Ev} (h:l[k]? =some x):(F4 l)[k]? =some (evS x):=by rw [F4,List.getElem?_map,List.getElem?_map,h];rfl
def evO (x:Ev) (j:Nat):List S:=(evS x).set 5 (.own j)
theorem Qz {l:List Ev} {k j:Nat} {x:Ev} (h:l[k]? =some x):((F4 l).set k (evO x j))[k]? =some (evO x j):=List.getElem?_set_self (by rw [R8];exact (List.getElem?_eq_some_iff.1 h).1)
theorem Lc {l:List Ev} {k j:Nat} {x y:Ev} (h:l[k+1]? =some y):((F4 l).set k (evO x j))[k+1]? =some (evS y):=by
 rw [List.getElem?_set_ne (by omega)];exact R9 h
theorem Atw (j:Nat) (d:D) (l:List Ev):(F4 l).map (S.frzL j d)=F4 l:=by
 unfold F4
 simp only [List.map_map]
 exact List.map_congr_left fun x _=>Avq j d (Ev.c x)
theorem Abe {l:List Ev} {m:Nat} (h:m<l.length):m<(F4 l).length:=by rw [R8];exact h
theorem Ju {l:List Ev} {m k:Nat} {c:List S} (h:m<l.length):m<((F4 l).set k c).length:=by rw [List.length_set,R8];exact h
theorem Aqh (j:Nat) (l:List Ev):(F4 l).map (S.killL j)=F4 l:=by
 unfold F4
 simp only [List.map_map]
 exact List.map_congr_left fun x _=>Ath j (Ev.c x)
theorem Yr {l:List Ev} {k i j:Nat} {x:Ev} (h:i≠j):((F4 l).set k (evO x j)).map (S.killL i)=(F4 l).set k (evO x j):=by
 rw [List.map_set,Aqh]
 have:S.killL i (evO x j)=evO x j:=by
  show [_,_,_,_,_,S.kill i (.own j),_,_,_,_,_,_,_]=_
  unfold S.kill
  rw [Cp h];rfl
 rw [this]
theorem N0 {x:Vo} (h:x.whole):∃e,x.evs[0]? =some e:=by
 unfold Vo.whole at h
 cases hx:x.evs with
 |nil=>rw [hx] at h;exact h.elim
 |cons e l=>exact ⟨e,rfl⟩
theorem V6 {l:List Ev} {k j:Nat} {x:Ev} {hs:List Hd}:((F4 l).set k (evO x j)).map (S.frzL j (.sl 5 (hs.map Hd.c)))=F4 (l.set k (x.reh hs)):=by
 rw [List.map_set,Atw]
 have:S.frzL j (.sl 5 (hs.map Hd.c)) (evO x j)=evS (x.reh hs):=by
  show [_,_,_,_,_,S.frz j _ (.own j),_,_,_,_,_,_,_]=_
  unfold S.frz
  rw [Cc];rfl
 rw [this]
 unfold F4
 rw [List.map_set,List.map_set];rfl
theorem Aif (o x:Hd):XC Tryz.prog 135 [.agg (Hd.c o), .pt [.pt (Hd.c x)]] (fun r=>r=dB (decide (o.p=x.p))):=by
 refine Ao Aek Tryz.func135 R R lb<|zr<|XL.step R (At 2 (l:= [.d (dI o.p.step), .d (dI o.p.alter), .d (dI o.p.oct), .d (dB o.tied), .d (dI o.sh)]) R R (by kernel_rfl))<|za R R<|zn<|zs<|Bm [] (by kernel_rfl) (by kernel_rfl) (by kernel_rfl) (by decide)<|yp (Aa R R Gp)<|yp (Ae (s':= .d (.agg (Pit.c o.p))) (Ac (Ad R R E0 R lb)) (by kernel_rfl))<|?_
 refine yp (Az R R Iu)<|yp (Apr R R)<|yp (Bq R R Gp)<|yp (Av R R E0 lb)<|yp (Abv R R R)<|ya R R<|?_
 refine ChK.nil ⟨by kernel_rfl, ?_⟩
 exact zt<|z1 R R (rB (decide_eq_decide.2 ⟨fun h=>Pit.eq_of h,fun h=>by rw [h];exact ⟨rfl,rfl,rfl⟩⟩))
def Va (p:Hd→Bool) (l:List Hd):Int:=match l.findIdx? p with|some k=>k|none=> -1
theorem Aqm {p:Hd→Bool} {l:List Hd} {k:Nat} {x:Hd} (h:l[k]? =some x) (hx:p x=true) (hb:∀j y,j<k→l[j]? =some y→p y=false):Va p l=k:=by
 have:l.findIdx? p=some k:=by
  rw [List.findIdx?_eq_some_iff_getElem]
  obtain ⟨h1,h2⟩:=List.getElem?_eq_some_iff.1 h
  exact ⟨h1,by rw [h2];exact hx,fun j hj=>by rw [hb j _ hj (List.getElem?_eq_getElem (by omega))];decide⟩
 rw [Va,this]
theorem An3 {p:Hd→Bool} {l:List Hd} (hb:∀(j:Nat) y,l[j]? =some y→p y=false):Va p l= -1:=by
 have:l.findIdx? p=none:=by
  rw [List.findIdx?_eq_none_iff]
  intro x hx
  obtain ⟨j,hj⟩:=List.getElem?_of_mem hx
  exact hb j x hj
 rw [Va,this]
theorem Aqn {p:Hd→Bool} {l:List Hd}:decide (0≤Va p l)=l.any p:=by
 unfold Va
 cases hf:l.findIdx? p with
 |none=>
  rw [List.findIdx?_eq_none_iff] at hf
  have:l.any p=false:=by rw [List.any_eq_false];exact fun x hx=>by rw [hf x hx];decide
  rw [this];decide
 |some k=>
  rw [List.findIdx?_eq_some_iff_getElem] at hf
  obtain ⟨h1,h2,_⟩:=hf
  have:l.any p=true:=by rw [List.any_eq_true];exact ⟨_,List.getElem_mem h1,h2⟩
  rw [this]
  exact decide_eq_true (show (0:Int)≤(k:Nat) by omega)
theorem Anz (l:List Hd) (F:Nat) (cs:List D) (p:Hd→Bool) (hF:∀x∈l,XC Tryz.prog F (.agg (Hd.c x)::cs) (fun r=>r=dB (p x))):XC Tryz.prog 137 [.sl 5 (l.map Hd.c), .fn F [] cs] (fun r=>r=dI (Va p l)):=by
 refine Ao Aei Tryz.func137 R R lb<|zr<|za R R<|zn<|zs<|zr<|zm R R<|XL.len R R R Tryz.underlying48 fun hl7=>zm R R<|zn<|Ah<|?_
 refine Ay (α:=Nat) (fun k=>k≤l.length∧∀j y,j<k→l[j]? =some y→p y=false) (fun k=>mkF [(0, .d (.sl 5 (l.map Hd.c))),(1, .d (.fn F [] cs)),(7, .d (dI l.length)),(8, .d (dI k))]) (fun k=>mkH []) (fun k=>l.length - k) (0) (⟨Nat.zero_le _,fun j y hj=>absurd hj (Nat.not_lt_zero _)⟩) ?_ ?_ ?_
 exact fz ⟨sr,sr,sr,sr,trivial⟩
 exact HSub.nil
 intro k hk0
 obtain ⟨hk,hb⟩:=hk0
 refine zr<|zp (As R R R)<|zn<|zs<|?_
 refine zd R (fun c9=> ?_) (fun c9=> ?_)
 have hk0a:k<l.length:=by omega
 obtain ⟨x0,hx0⟩:=Au hk0a
 refine zi<|zs<|Ah<|zr<|zm R R<|za R R<|znr<|zm R R<|zm R R<|zm R R<|zp (Am R R R Fl hx0)<|zp (Ae (s':= .d (.agg (Hd.c x0))) (Av R R Kk lb) (by kernel_rfl))<|XL.callv1 (ds:= [_]) R R R (hF x0 (List.mem_of_getElem? hx0)) R<|zn<|?_
 refine Dw (by kernel_rfl) R (fun c16=> ?_) (fun c16=> ?_)
 exact zr<|zm R R<|za R R<|zn<|zt<|z1 R R (rI (Aqm hx0 c16 hb).symm)
 refine zi<|Af (by kernel_rfl)<|zp (Aj R R R (by omega) (by omega))<|zm R R<|zn<|?_
 exact Ak (k+1) (⟨by omega,fun j y hj hy=>by by_cases e:j=k;(· subst e;rw [hx0] at hy;cases hy;exact c16);(· exact hb j y (by omega) hy)⟩) (by omega) (fz ⟨sr,sr,sr,sr,trivial⟩) (HSub.nil)
 have hk0b:k=l.length:=by omega
 exact Ap<|zr<|za R R<|zn<|zt<|z1 R R (rI (An3 (fun j y hy=>hb j y (by have:=(List.getElem?_eq_some_iff.1 hy).1;omega) hy)).symm)
theorem Su (l:List Hd) (F:Nat) (cs:List D) (p:Hd→Bool) (hF:∀x∈l,XC Tryz.prog F (.agg (Hd.c x)::cs) (fun r=>r=dB (p x))):XC Tryz.prog 91 [.sl 5 (l.map Hd.c), .fn F [] cs] (fun r=>r=dB (l.any p)):=by
 exact Ao Agd Tryz.func91 R R lb<|zr<|za R R<|znr<|zm R R<|zm R R<|XL.call1 R R (Anz _ _ _ p hF) R<|zp (Dr R R R)<|za R R<|zn<|zt<|z1 R R (rB Aqn)
end Go.Proofs.YtcihalbakenleaaGreat
namespace Go.Proofs.YtcihalbakenleaaGreat
open Go.RowKit
structure Vo.fit3 (v:Vo):Prop where
 evs:v.evs.length≤3000
 tups:v.tups.length≤1000
 ev:∀e∈v.evs,e.fit
theorem Amm {y:Ev} {x:Hd} (h:x.tied=true) (k:y.kind=1):Hl y x=⟨x.p,Lv y.heads x.p,x.sh⟩:=by unfold Hl;rw [h,decide_eq_true k];rfl
theorem Aml {y:Ev} {x:Hd} (k:¬y.kind=1):Hl y x=⟨x.p,false,x.sh⟩:=by unfold Hl;rw [decide_eq_false k,Bool.false_and,Bool.and_false]
theorem Amk {y:Ev} {x:Hd} (h:¬x.tied=true):Hl y x=⟨x.p,false,x.sh⟩:=by
 have:x.tied=false:=by simpa using h
 unfold Hl;rw [this,Bool.false_and]
theorem Xy {x:Vo} (h:Dq x=0) (hl:x.evs.length≤128):Sml x:=by
 have h2:=(To h).2
 have hT:=I1 (fun k=>k h2)
 refine ⟨by omega,by have:=hT.len;omega,fun t ht=> ?_⟩
 have:=hT.ok t ht
 unfold Tp.ok at this
 omega
def Vo.err0 (x:Vo):Int:=match x.evs[0]? with|some e=>e.err|none=>0
theorem Aje {x:Vo} {e:Ev} (h:x.evs[0]? =some e):x.err0=e.err:=by unfold Vo.err0;rw [h]
def Mc (d:Vo) (f l:Nat) (x:Vo):Vo:=⟨B9 (B9 (A8 d f (l - f) x).evs ((f:Nat) - 1)) ((f:Nat)+x.evs.length - 1),(A8 d f (l - f) x).tups⟩
def Jn (v:Vo) (a b:Int) (d:Vo) (f l:Nat) (x:Vo):Vo × Int:=
 if 128<(x.evs.length:Int) then (⟨[], []⟩,9) else if x.whole then (⟨[], []⟩,if x.err0≠0 then x.err0 else 11) else if Dq x≠0 then (⟨[], []⟩,Dq x) else if tot (D7 x)≠b - a then (⟨[], []⟩,20) else if a=b then (v,0) else
 if 128<((A8 d f (l - f) x).evs.length:Int)∨16<((A8 d f (l - f) x).tups.length:Int) then (⟨[], []⟩,9) else (Mc d f l x,0)
def Hh (v:Vo) (p:Pl) (a b:Int) (x:Vo):Vo × Int:=if (Dl v p a b).2.2.2≠0 then (⟨[], []⟩,(Dl v p a b).2.2.2) else Jn v a b (Dl v p a b).1 (Dl v p a b).2.1.toNat (Dl v p a b).2.2.1.toNat x
theorem Apo {v:Vo} {p:Pl} {a b:Int} {d x:Vo} {f l:Nat} {e:Int} (h:Dl v p a b=(d,(f:Int),(l:Int),e)) (he:e≠0):Hh v p a b x=(⟨[], []⟩,e):=by rw [Hh,h,if_pos he]
theorem Jb {v:Vo} {p:Pl} {a b:Int} {d x:Vo} {f l:Nat} {e:Int} (h:Dl v p a b=(d,(f:Int),(l:Int),e)) (he:¬e≠0):Hh v p a b x=Jn v a b d f l x:=by rw [Hh,h,if_neg he];rfl
section
variable {v d x:Vo} {a b:Int} {f l:Nat}
theorem Apn (h:128<(x.evs.length:Int)):Jn v a b d f l x=(⟨[], []⟩,9):=by rw [Jn,if_pos h]
theorem Apm {e:Ev} (h:¬128<(x.evs.length:Int)) (h2:x.whole) (he:x.evs[0]? =some e) (h3:e.err≠0):Jn v a b d f l x=(⟨[], []⟩,e.err):=by rw [Jn,if_neg h,if_pos h2,Aje he,if_pos h3]
theorem Apl {e:Ev} (h:¬128<(x.evs.length:Int)) (h2:x.whole) (he:x.evs[0]? =some e) (h3:¬e.err≠0):Jn v a b d f l x=(⟨[], []⟩,11):=by rw [Jn,if_neg h,if_pos h2,Aje he,if_neg h3]
theorem Apk (h:¬128<(x.evs.length:Int)) (h2:¬x.whole) (h3:Dq x≠0):Jn v a b d f l x=(⟨[], []⟩,Dq x):=by rw [Jn,if_neg h,if_neg h2,if_pos h3]
theorem Apj (h:¬128<(x.evs.length:Int)) (h2:¬x.whole) (h3:¬Dq x≠0) (h4:tot (D7 x)≠b - a):Jn v a b d f l x=(⟨[], []⟩,20):=by rw [Jn,if_neg h,if_neg h2,if_neg h3,if_pos h4]
theorem Api (h:¬128<(x.evs.length:Int)) (h2:¬x.whole) (h3:¬Dq x≠0) (h4:¬tot (D7 x)≠b - a) (h5:a=b):Jn v a b d f l x=(v,0):=by rw [Jn,if_neg h,if_neg h2,if_neg h3,if_neg h4,if_pos h5]
theorem Abl (h:¬128<(x.evs.length:Int)) (h2:¬x.whole) (h3:¬Dq x≠0) (h4:¬tot (D7 x)≠b - a) (h5:¬a=b) (h6:128<((A8 d f (l - f) x).evs.length:Int)∨16<((A8 d f (l - f) x).tups.length:Int)):Jn v a b d f l x=(⟨[], []⟩,9):=by rw [Jn,if_neg h,if_neg h2,if_neg h3,if_neg h4,if_neg h5,if_pos h6]
theorem Xo (h:¬128<(x.evs.length:Int)) (h2:¬x.whole) (h3:¬Dq x≠0) (h4:¬tot (D7 x)≠b - a) (h5:¬a=b) (h6:¬(128<((A8 d f (l - f) x).evs.length:Int)∨16<((A8 d f (l - f) x).tups.length:Int))):Jn v a b d f l x=(Mc d f l x,0):=by rw [Jn,if_neg h,if_neg h2,if_neg h3,if_neg h4,if_neg h5,if_neg h6]
end
theorem N9 {d x:Vo} {f n:Nat} (hd:∀e∈d.evs,e.fit) (hx:∀e∈x.evs,e.fit):∀e∈(A8 d f n x).evs,e.fit:=by
 intro e he
 simp only [A8] at he
 rcases List.mem_append.1 he with he|he
 ·rcases List.mem_append.1 he with he|he
  ·exact hd e (List.mem_of_mem_take he)
  ·exact hx e he
 ·exact hd e (List.mem_of_mem_drop he)
theorem Abm {d x:Vo} {f l:Nat} (hd:d.fit) (hx:x.fit3) (h:¬(128<((A8 d f (l - f) x).evs.length:Int)∨16<((A8 d f (l - f) x).tups.length:Int))):(Mc d f l x).fit:=by
 refine ⟨?_, ?_,fun e he=>Ln (Ln (N9 hd.ev hx.ev) _) _ e he⟩
 ·show (B9 (B9 (A8 d f (l - f) x).evs ((f:Nat) - 1)) ((f:Nat)+x.evs.length - 1)).length≤1000
  rw [Lm,Lm];omega
 ·show (A8 d f (l - f) x).tups.length≤1000
  omega
theorem Am5 (v:Vo) (p:Pl) (a b:Int) (z:Vo) (hE:Evs v.evs) (hF:v.fit) (hEx:Evs z.evs) (hFx:z.fit3):XC Tryz.prog 41 [.agg (Vo.c v), .agg (Pl.c p), .v (.int .i64 a), .v (.int .i64 b), .agg (Vo.c z)] (fun r=>r= .tup [.agg (Vo.c (Hh v p a b z).1),dI (Hh v p a b z).2]):=by
 obtain ⟨d,f,l,e,hreg,hok⟩:=Mb v p a b
 refine Ao Ahl Tryz.func41 R R lb<|zr<|XL.step R (At 5 (l:= [.d (.sl 13 (v.evs.map Ev.c)), .d (.sl 4 (v.tups.map Tp.c))]) R R (by kernel_rfl))<|XL.step R (At 6 (l:= [.d (dI p.m.count), .d (dI p.m.unit), .d (dI p.m.g0), .d (dI p.m.g1), .d (dI p.m.g2), .d (dI p.m.g3), .d (dI p.m.g4), .d (dI p.m.g5), .d (dI p.off), .d (dI p.len)]) R R (by kernel_rfl))<|?_
 refine XL.step R (At 9 (l:= [.d (.sl 13 (z.evs.map Ev.c)), .d (.sl 4 (z.tups.map Tp.c))]) R R (by kernel_rfl))<|XL.step R (A0 10 (l:= [.d (.v (.slice none 0 0)), .d (.v (.slice none 0 0))]) R A1 (by kernel_rfl))<|za R R<|znr<|zp (Ae (s':= .d (.agg (Vo.c v))) (Ac (Ad R R An R lb)) (by kernel_rfl))<|?_
 refine zp (Ae (s':= .d (.agg (Pl.c p))) (Ac (Ad R R G7 R lb)) (by kernel_rfl))<|zm R R<|zm R R<|XL.call1 R R (Am0 hE hF hreg) R<|zm R R<|zp (A6 R R R)<|zp (A6 R R R)<|zp (A6 R R R)<|zp (A6 R R R)<|XL.step R (A0 12 (l:= [.d (.v (.slice none 0 0)), .d (.v (.slice none 0 0))]) R A1 (by kernel_rfl))<|?_
 refine XL.step R (Ag (l':= [.d (.sl 13 (d.evs.map Ev.c)), .d (.sl 4 (d.tups.map Tp.c))]) R R R R Bc R lb (by kernel_rfl))<|za R R<|za R R<|za R R<|zn<|zs<|zr<|zm R R<|zp (Be R R R)<|zn<|?_
 refine zd R (fun c30=> ?_) (fun c30=> ?_)
 refine zr<|zp (Ae (s':= .d (.agg [.v (.slice none 0 0), .v (.slice none 0 0)])) (Ac (A4 R Br A1 R)) (by kernel_rfl))<|zm R R<|XL.step R (Ag (l':= [.d (.v (.slice none 0 0)), .d (.v (.slice none 0 0))]) R R R R Bc R lb (by kernel_rfl))<|za R R<|zn<|zt<|?_
 exact Bh R (RV.sub (RV.cells R R R An lb R) (.agg (.cons (.nil 13) (.cons (.nil 4) (.nil))))) (RV.tmp R R) (r2v (Apo hreg c30))
 refine zi<|zs<|zs<|?_
 have hO:=hok (by omega)
 have hFd:=hO.fit hF
 obtain ⟨hsd,hdl⟩:=Ki (C6 hO.chk).2.2
 have hfl:=hO.fl
 have hll:=hO.ll
 have hab:=hO.rng
 have hpb:=(C6 hO.hc).2.1
 unfold Pl.bad at hpb
 refine Af (by kernel_rfl)<|zp (Aa R R Ax)<|zp (Ab R R Bk R R)<|XL.len R R R Tryz.underlying22 fun hl35=>zp (Bb R R R)<|zn<|?_
 refine zd R (fun c36=> ?_) (fun c36=> ?_)
 refine zr<|zp (Ae (s':= .d (.agg [.v (.slice none 0 0), .v (.slice none 0 0)])) (Ac (A4 R Br A1 R)) (by kernel_rfl))<|XL.step R (Ag (l':= [.d (.v (.slice none 0 0)), .d (.v (.slice none 0 0))]) R R R R Bc R lb (by kernel_rfl))<|za R R<|zn<|zt<|?_
 exact Bh R (RV.sub (RV.cells R R R An lb R) (.agg (.cons (.nil 13) (.cons (.nil 4) (.nil))))) (RV.tmp R R) (r2v ((Jb hreg c30).trans (Apn c36)))
 refine zi<|zs<|zr<|zp (Ae (s':= .d (.agg (Vo.c z))) (Ac (Ad R R An R lb)) (by kernel_rfl))<|XL.call1 R R (Aaq _) R<|zn<|?_
 refine zd R (fun c39=> ?_) (fun c39=> ?_)
 refine zs<|zs<|?_
 obtain ⟨e0,he0⟩:=N0 c39
 have he0a:=hEx e0 (List.mem_of_getElem? he0)
 refine Af (by kernel_rfl)<|zp (Aa R R Ax)<|zp (Ab R R Bk R R)<|zp (Am (k:=0) R R R B5 (he0))<|zp (Ae (s':= .d (.agg (Ev.c e0))) (Av R R A3 lb) (by kernel_rfl))<|XL.call1 R R (Pn _ (by assumption)) R<|za R R<|znr<|zm R R<|zp (Be R R R)<|zn<|?_
 refine zd R (fun c46=> ?_) (fun c46=> ?_)
 refine zr<|zp (Ae (s':= .d (.agg [.v (.slice none 0 0), .v (.slice none 0 0)])) (Ac (A4 R Br A1 R)) (by kernel_rfl))<|zm R R<|XL.step R (Ag (l':= [.d (.v (.slice none 0 0)), .d (.v (.slice none 0 0))]) R R R R Bc R lb (by kernel_rfl))<|za R R<|zn<|zt<|?_
 exact Bh R (RV.sub (RV.cells R R R An lb R) (.agg (.cons (.nil 13) (.cons (.nil 4) (.nil))))) (RV.tmp R R) (r2v ((Jb hreg c30).trans (Apm c36 c39 he0 c46)))
 refine zi<|zr<|zp (Ae (s':= .d (.agg [.v (.slice none 0 0), .v (.slice none 0 0)])) (Ac (A4 R Br A1 R)) (by kernel_rfl))<|XL.step R (Ag (l':= [.d (.v (.slice none 0 0)), .d (.v (.slice none 0 0))]) R R R R Bc R lb (by kernel_rfl))<|za R R<|zn<|zt<|?_
 exact Bh R (RV.sub (RV.cells R R R An lb R) (.agg (.cons (.nil 13) (.cons (.nil 4) (.nil))))) (RV.tmp R R) (r2v ((Jb hreg c30).trans (Apl c36 c39 he0 c46)))
 refine zi<|zr<|zp (Ae (s':= .d (.agg (Vo.c z))) (Ac (Ad R R An R lb)) (by kernel_rfl))<|XL.call1 R R (U9 _ (by assumption) (by omega)) R<|zm R R<|zp (A6 R R R)<|zp (A6 R R R)<|za R R<|za R R<|zn<|zs<|Ah<|zr<|zm R R<|?_
 refine zp (Be R R R)<|za R R<|zn<|?_
 refine zd R (fun c55=> ?_) (fun c55=> ?_)
 refine zr<|zp (Ae (s':= .d (.agg [.v (.slice none 0 0), .v (.slice none 0 0)])) (Ac (A4 R Br A1 R)) (by kernel_rfl))<|zm R R<|XL.step R (Ag (l':= [.d (.v (.slice none 0 0)), .d (.v (.slice none 0 0))]) R R R R Bc R lb (by kernel_rfl))<|za R R<|zn<|zt<|?_
 exact Bh R (RV.sub (RV.cells R R R An lb R) (.agg (.cons (.nil 13) (.cons (.nil 4) (.nil))))) (RV.tmp R R) (r2v ((Jb hreg c30).trans (Apk c36 c39 c55)))
 refine zs<|?_
 have hNx:=Sg z
 refine Af (by kernel_rfl)<|zm R R<|XL.call1 R R (Un _ (by assumption)) R<|zm R R<|zm R R<|zp (C9 R R R (by omega) (by omega))<|zp (Be R R R)<|za R R<|zn<|?_
 refine zd R (fun c60=> ?_) (fun c60=> ?_)
 refine zr<|zp (Ae (s':= .d (.agg [.v (.slice none 0 0), .v (.slice none 0 0)])) (Ac (A4 R Br A1 R)) (by kernel_rfl))<|XL.step R (Ag (l':= [.d (.v (.slice none 0 0)), .d (.v (.slice none 0 0))]) R R R R Bc R lb (by kernel_rfl))<|za R R<|zn<|zt<|?_
 exact Bh R (RV.sub (RV.cells R R R An lb R) (.agg (.cons (.nil 13) (.cons (.nil 4) (.nil))))) (RV.tmp R R) (r2v ((Jb hreg c30).trans (Apj c36 c39 c55 c60)))
 refine zr<|zm R R<|zm R R<|zp (A5 R R R)<|za R R<|zn<|?_
 refine zd R (fun c68=> ?_) (fun c68=> ?_)
 refine zr<|zp (Ae (s':= .d (.agg (Vo.c v))) (Ac (Ad R R An R lb)) (by kernel_rfl))<|XL.call1 R R (Hs _ (by assumption)) R<|XL.step R (Ag (l':= [.d (.sl 13 (v.evs.map Ev.c)), .d (.sl 4 (v.tups.map Tp.c))]) R R R R Bc R lb (by kernel_rfl))<|za R R<|zn<|zt<|?_
 exact Bh R (RV.cells R R R An lb R) (RV.tmp R R) (r2v ((Jb hreg c30).trans (Api c36 c39 c55 c60 c68)))
 refine zi<|zs<|?_
 have hFz:z.fit:=⟨by omega,hFx.tups,hFx.ev⟩
 have hsx:=Xy (x:=z) (by omega) (by omega)
 refine Ce 9 [7001,18] (by kernel_rfl) (by kernel_rfl) (by kernel_rfl) (by kernel_rfl) (by decide)<|yp (Ae (s':= .d (.agg (Vo.c d))) (Ac (Ad R R An R lb)) (by kernel_rfl))<|ym R R<|ym R R<|ym R R<|yp (Ae (s':= .d (dI (l - f:Nat))) (C9 R R R (by omega) (by omega)) (sI (by omega)))<|?_
 refine yp (Ae (s':= .d (.agg (Vo.c z))) (Ac (Ad R R An R lb)) (by kernel_rfl))<|ChK.cons R (CStep.call R (Hs _ (by assumption)) R)<|ChK.cons R (CStep.callS R (Wa d f (l - f) z hsd hsx (by omega)) R (Ex (by kernel_rfl)))<|ChK.cons R (CStep.allocN 18 (l:= [.d (.v (.slice none 0 0)), .d (.v (.slice none 0 0))]) R A1 R R)<|?_
 refine ChK.nil ⟨by kernel_rfl, ?_⟩
 refine XL.step R (Ag (l':= [.own 7001, .d (.sl 4 ((A8 d f (l - f) z).tups.map Tp.c))]) R R R R Bc R lb (by kernel_rfl))<|zn<|zs<|zr<|zp (Aa R R Ax)<|zp (Ab R R Bk R R)<|zp (Cg R R R Tryz.underlying22)<|zp (Bb R R R)<|zm R R<|?_
 refine XL.dec 86 R (fun g86=> ?_) (fun g86=> ?_)
 refine zk 4 R<|zq R R R<|zn<|Aq (by kernel_rfl) R<|zr<|zp (Ae (s':= .d (.agg [.v (.slice none 0 0), .v (.slice none 0 0)])) (Ac (A4 R Br A1 R)) (by kernel_rfl))<|XL.step R (Ag (l':= [.d (.v (.slice none 0 0)), .d (.v (.slice none 0 0))]) R R R R Bc R lb (by kernel_rfl))<|za R R<|zn<|zt<|?_
 exact Bh R (RV.sub (RV.cells R R R An lb R) (.agg (.cons (.nil 13) (.cons (.nil 4) (.nil))))) (RV.tmp R R) (r2v ((Jb hreg c30).trans (Abl c36 c39 c55 c60 c68 (by omega))))
 refine zp (Aa R R Bn)<|zp (Ab R R B1 R R)<|XL.len R R R Tryz.underlying23 fun hl89=>zp (Bb R R R)<|zq R R R<|zn<|?_
 refine zd R (fun c91=> ?_) (fun c91=> ?_)
 refine zr<|zp (Ae (s':= .d (.agg [.v (.slice none 0 0), .v (.slice none 0 0)])) (Ac (A4 R Br A1 R)) (by kernel_rfl))<|XL.step R (Ag (l':= [.d (.v (.slice none 0 0)), .d (.v (.slice none 0 0))]) R R R R Bc R lb (by kernel_rfl))<|za R R<|zn<|zt<|?_
 exact Bh R (RV.sub (RV.cells R R R An lb R) (.agg (.cons (.nil 13) (.cons (.nil 4) (.nil))))) (RV.tmp R R) (r2v ((Jb hreg c30).trans (Abl c36 c39 c55 c60 c68 (by omega))))
 refine zi<|zs<|?_
 have hfe:=N9 (f:=f) (n:=l - f) hFd.ev hFx.ev
 refine Af (by kernel_rfl)<|zp (Aa R R Ax)<|zp (Ab R R Bk R R)<|zm R R<|zp (C9 R R R (by omega) (by omega))<|?_
 refine XL.inlM 900001 [(9, .ptr 9 0 0),(10, .ptr 10 0 0),(11, .d (dI 0)),(13, .d (dI (f:Nat))),(18, .ptr 18 0 0)] (mkF [(9, .ptr 9 0 0),(10, .ptr 10 0 0),(11, .d (dI 0)),(13, .d (dI (f:Nat))),(18, .ptr 18 0 0)]) (mkH [(9, .box ((Vo.c z).map S.d)),(10, .box [.d (.v (.slice none 0 0)), .d (.v (.slice none 0 0))]),(18, .box [.own 7001, .d (.sl 4 ((A8 d f (l - f) z).tups.map Tp.c))]),(7001, .row 60 13 ((B9 ((A8 d f (l - f) z).evs) (((f:Nat) - 1))).map Ev.c))]) R R .d Uf Tryz.func89 R R lb (by simp only [List.forall_mem_cons];exact ⟨⟨Nat.le_of_ble_eq_true rfl,rfl⟩,⟨⟨Nat.le_of_ble_eq_true rfl,rfl⟩,⟨⟨Nat.le_of_ble_eq_true rfl,rfl⟩,⟨⟨Nat.le_of_ble_eq_true rfl,rfl⟩,⟨⟨Nat.le_of_ble_eq_true rfl,rfl⟩,fun p hp=>(by cases hp)⟩⟩⟩⟩⟩) ?_ (fun u1=> ?_)
 refine zn<|zs<|?_
 have hfe2:=Ln hfe ((f:Nat) - 1)
 have hsl:=Lm ((A8 d f (l - f) z).evs) ((f:Nat) - 1)
 refine Af (by kernel_rfl)<|zp (Aa R R Ax)<|zp (Ab R R Bk R R)<|zm R R<|zp (Aa R R Ax)<|zp (Ab R R Bk R R)<|XL.len R R R Tryz.underlying22 fun hl103=>zp (Aj R R R (by omega) (by omega))<|zp (C9 R R R (by omega) (by omega))<|?_
 refine XL.inlM 900002 [(10, .ptr 10 0 0),(11, .d (dI 0)),(18, .ptr 18 0 0)] (mkF [(10, .ptr 10 0 0),(11, .d (dI 0)),(18, .ptr 18 0 0)]) (mkH [(10, .box [.d (.v (.slice none 0 0)), .d (.v (.slice none 0 0))]),(18, .box [.own 7001, .d (.sl 4 ((A8 d f (l - f) z).tups.map Tp.c))]),(7001, .row 60 13 ((B9 (B9 ((A8 d f (l - f) z).evs) (((f:Nat) - 1))) (((f:Nat)+z.evs.length - 1))).map Ev.c))]) R R .d Uf Tryz.func89 R R lb (by simp only [List.forall_mem_cons];exact ⟨⟨Nat.le_of_ble_eq_true rfl,rfl⟩,⟨⟨Nat.le_of_ble_eq_true rfl,rfl⟩,⟨⟨Nat.le_of_ble_eq_true rfl,rfl⟩,fun p hp=>(by cases hp)⟩⟩⟩) ?_ (fun u2=> ?_)
 refine zn<|zs<|?_
 have hpf:=Abm (f:=f) (l:=l) hFd hFx (by omega)
 refine Af (by kernel_rfl)<|XL.freeze (i:=7001) R<|zp (Ae (s':= .d (.agg (Vo.c (Mc d f l z)))) (Ac (Ad R R An R lb)) (by kernel_rfl))<|XL.call1 R R (Hs _ (by assumption)) R<|XL.step R (Ag (l':= [.d (.sl 13 ((Mc d f l z).evs.map Ev.c)), .d (.sl 4 ((Mc d f l z).tups.map Tp.c))]) R R R R Bc R lb (by kernel_rfl))<|za R R<|zn<|zt<|?_
 exact Bh R (RV.cells R R R An lb R) (RV.tmp R R) (r2v ((Jb hreg c30).trans (Xo c36 c39 c55 c60 c68 (by omega))))
 refine zs<|zr<|zm R R<|zp (As R R R)<|zm R R<|?_
 refine XL.dec 8 R (fun g8t=> ?_) (fun g8t=> ?_)
 refine zk 5 R<|zq R R R<|zn<|Aq (by kernel_rfl) R<|zt<|?_
 exact Tm (l:= [(10, .ptr 10 0 0),(11, .d (dI 0)),(18, .ptr 18 0 0)]) (by kernel_rfl) (rs0 R R) (fz ⟨sr,sr,sr,trivial⟩) (gz ⟨R,R,Pw (J6 (.inl g8t)).symm,trivial⟩)
 refine zm R R<|zp (Aj R R R (by omega) (by omega))<|zp (Aw R (by conv=>lhs;whnf))<|?_
 refine zp (Cg R R R Tryz.underlying22)<|zp (Dr R R R)<|zq R R R<|zn<|?_
 refine zd R (fun c14t=> ?_) (fun c14t=> ?_)
 refine zt<|?_
 exact Tm (l:= [(10, .ptr 10 0 0),(11, .d (dI 0)),(18, .ptr 18 0 0)]) (by kernel_rfl) (rs0 R R) (fz ⟨sr,sr,sr,trivial⟩) (gz ⟨R,R,Pw (J6 (.inr (by omega))).symm,trivial⟩)
 refine zi<|zs<|?_
 obtain ⟨m,hm⟩:∃m:Nat,(((f:Nat)+z.evs.length - 1):Int)=m:=⟨(((f:Nat)+z.evs.length - 1):Int).toNat,by omega⟩
 obtain ⟨x,hx⟩:∃x,(B9 ((A8 d f (l - f) z).evs) (((f:Nat) - 1)))[m]? =some x:=Au (by omega)
 obtain ⟨y,hy⟩:∃y,(B9 ((A8 d f (l - f) z).evs) (((f:Nat) - 1)))[m+1]? =some y:=Au (by omega)
 have hxf:x.fit:=hfe2 x (List.mem_of_getElem? hx)
 have hxh:=hxf.1
 refine Af (by kernel_rfl)<|zp (Aw R (by conv=>lhs;whnf))<|?_
 refine zm R R<|zp (Aw R (by conv=>lhs;whnf))<|?_
 refine zm R R<|zp (Cu R R R (hm) R B5 (by omega))<|zp (Aa R R Bi)<|zp (F8 R R Ct R (Cf hx) R)<|XL.callS R R ((Il _ (by omega)).lab 7002) R<|XL.toS (i:=7001) R<|zp (Fk R R R (hm) R B5 (Abe (by omega)))<|zp (Aa R R Bi)<|XL.step R (Ry R R R (R9 hx) R H4 R lb)<|znr<|zp (Aw R (by conv=>lhs;whnf))<|?_
 refine zm R R<|zp (Fk R R R (hm) R B5 (Ju (by omega)))<|zp (Aa R R Bi)<|zp (F0 R R Ct R (Qz hx) R)<|zp (Cg R R R Tryz.underlying48)<|zm R R<|zn<|Ah<|?_
 refine Ay (α:=Nat) (fun j=>j≤x.heads.length) (fun j=>mkF [(0, .own 7001),(1, .d (dI (((f:Nat)+z.evs.length) - 1))),(30, .d (dI x.heads.length)),(31, .d (dI (j:Nat)))]) (fun j=>mkH [(10, .box [.d (.v (.slice none 0 0)), .d (.v (.slice none 0 0))]),(18, .box [.own 7001, .d (.sl 4 ((A8 d f (l - f) z).tups.map Tp.c))]),(7001, .rowS 60 13 ((F4 (B9 ((A8 d f (l - f) z).evs) (((f:Nat) - 1)))).set m (evO x 7002))),(7002, .row 91 5 ((In (Hl y) x.heads j).map Hd.c)),(900002, .ghost u2 [(10, .ptr 10 0 0),(11, .d (dI 0)),(18, .ptr 18 0 0)])]) (fun j=>x.heads.length - j) (0) (Nat.zero_le _) ?_ ?_ ?_
 exact fz ⟨sr,sr,sr,sr,trivial⟩
 exact gz ⟨R,R,R,by rw [←Nk];rfl,rfl,trivial⟩
 intro j hk0t
 refine zr<|zp (As R R R)<|zn<|zs<|?_
 refine zd R (fun c32t=> ?_) (fun c32t=> ?_)
 have hjl:j<x.heads.length:=by omega
 obtain ⟨hd,hh⟩:=Au hjl
 have hml:=Le (Hl y) x.heads j
 have hg:=O8 (f:=Hl y) hh
 refine zi<|zs<|Ah<|zr<|zm R R<|za R R<|znr<|zp (Aw R (by conv=>lhs;whnf))<|?_
 refine zm R R<|zp (Fk R R R (hm) R B5 (Ju (by omega)))<|zp (Aa R R Bi)<|zp (F0 R R Ct R (Qz hx) R)<|zm R R<|zp (Cu R R R (R) R Fl (by rw [Le];omega))<|XL.step R (A0 2005 (l:= [.d (.v (.pointer none))]) R Aan (by kernel_rfl))<|XL.step R (Ag (l':= [.ptr 7002 _ _]) R R R R Ama R lb R)<|zn<|?_
 refine Aap (i:=7001) (l':=(F4 (B9 ((A8 d f (l - f) z).evs) (((f:Nat) - 1)))).set m (evO x 7002)) R (Yr (by decide))<|?_
 by_cases q45:hd.tied=true
 by_cases q53t:(y.kind:Int)=(1:Int)
 refine Ce 24 [] (by kernel_rfl) (by kernel_rfl) (by kernel_rfl) (by kernel_rfl) (by decide)<|yp (Ab R R Iu R R)<|yp (Ab R R Iu R R)<|yp (Gg R R)<|yp (Aa R R Dv)<|yp (Abw (F8 R R Kv R (Cf hg) R) q45)<|ym R R<|yp (Aw R (by conv=>lhs;whnf))<|?_
 refine ym R R<|yp (Aj R R R (by omega) (by omega))<|yp (Fk R R R (show _=((m+1:Nat):Int) by omega) rfl B5 (Ju (by omega)))<|yp (Aa R R B2)<|yp (F0 R R Ai R (Lc hy) R)<|yp (Dz (A5 R R R) (q53t))<|yp (Ba R R (by conv=>lhs;whnf))<|?_
 refine ym R R<|yp (Aw R (by conv=>lhs;whnf))<|?_
 refine ym R R<|yp (Aj R R R (by omega) (by omega))<|yp (Fk R R R (show _=((m+1:Nat):Int) by omega) rfl B5 (Ju (by omega)))<|yp (Aa R R Bi)<|yp (F0 R R Ct R (Lc hy) R)<|yp (Ako R)<|?_
 refine ChK.cons R (CStep.lend R (Su y.heads 135 [.pt [.pt (Hd.c hd)]] (fun o=>decide (o.p=hd.p)) (fun o _=>Aif o hd)) (.cons (.d _) (.cons (.fn .nil (.cons (.pbox R R (.cons (.prow R (Cf hg)) .nil)) .nil)) .nil)))<|yp (Ba R R (by conv=>lhs;whnf))<|?_
 refine ChK.nil ⟨by kernel_rfl, ?_⟩
 refine zp (Gg R R)<|zp (Aa R R Dv)<|XL.step R (Dk R R R (Cf hg) R R Pt R lb)<|zn<|Af (by kernel_rfl)<|zp (Aj R R R (by omega) (by omega))<|zm R R<|zn<|?_
 exact Ak (j+1) (by omega) (by omega) (fz ⟨sr,sr,sr,sr,trivial⟩) (gz ⟨R,R,R,L8 (a:=Hl y hd) (by rw [Amm q45 q53t];rfl) (I2 hh),R,trivial⟩)
 refine Ce 24 [] (by kernel_rfl) (by kernel_rfl) (by kernel_rfl) (by kernel_rfl) (by decide)<|yp (Ab R R Iu R R)<|yp (Ab R R Iu R R)<|yp (Gg R R)<|yp (Aa R R Dv)<|yp (Abw (F8 R R Kv R (Cf hg) R) q45)<|ym R R<|yp (Aw R (by conv=>lhs;whnf))<|?_
 refine ym R R<|yp (Aj R R R (by omega) (by omega))<|yp (Fk R R R (show _=((m+1:Nat):Int) by omega) rfl B5 (Ju (by omega)))<|yp (Aa R R B2)<|yp (F0 R R Ai R (Lc hy) R)<|yp (F7 (A5 R R R) (q53t))<|yp (Ba R R (by conv=>lhs;whnf))<|?_
 refine ym R R<|ChK.skip R<|ChK.skip R<|ChK.skip R<|ChK.skip R<|ChK.skip R<|ChK.skip R<|ChK.skip R<|ChK.skip R<|yp (Ba R R (by conv=>lhs;whnf))<|?_
 refine ChK.nil ⟨by kernel_rfl, ?_⟩
 refine zp (Gg R R)<|zp (Aa R R Dv)<|XL.step R (Dk R R R (Cf hg) R R Pt R lb)<|zn<|Af (by kernel_rfl)<|zp (Aj R R R (by omega) (by omega))<|zm R R<|zn<|?_
 exact Ak (j+1) (by omega) (by omega) (fz ⟨sr,sr,sr,sr,trivial⟩) (gz ⟨R,R,R,L8 (a:=Hl y hd) (by rw [Aml q53t];rfl) (I2 hh),R,trivial⟩)
 refine Ce 24 [] (by kernel_rfl) (by kernel_rfl) (by kernel_rfl) (by kernel_rfl) (by decide)<|yp (Ab R R Iu R R)<|yp (Ab R R Iu R R)<|yp (Gg R R)<|yp (Aa R R Dv)<|yp (Apz (F8 R R Kv R (Cf hg) R) q45)<|ym R R<|ChK.skip R<|ChK.skip R<|ChK.skip R<|ChK.skip R<|ChK.skip R<|ChK.skip R<|ChK.skip R<|?_
 refine yp (Ba R R (by conv=>lhs;whnf))<|?_
 refine ym R R<|ChK.skip R<|ChK.skip R<|ChK.skip R<|ChK.skip R<|ChK.skip R<|ChK.skip R<|ChK.skip R<|ChK.skip R<|yp (Ba R R (by conv=>lhs;whnf))<|?_
 refine ChK.nil ⟨by kernel_rfl, ?_⟩
 refine zp (Gg R R)<|zp (Aa R R Dv)<|XL.step R (Dk R R R (Cf hg) R R Pt R lb)<|zn<|Af (by kernel_rfl)<|zp (Aj R R R (by omega) (by omega))<|zm R R<|zn<|?_
 exact Ak (j+1) (by omega) (by omega) (fz ⟨sr,sr,sr,sr,trivial⟩) (gz ⟨R,R,R,L8 (a:=Hl y hd) (by rw [Amk q45];rfl) (I2 hh),R,trivial⟩)
 have he:=O9 (f:=Hl y) (l:=x.heads) (k:=j) (by omega)
 refine Yd (i:=7002) R<|Al2 (i:=7001) (l:=(B9 (B9 ((A8 d f (l - f) z).evs) (((f:Nat) - 1))) (((f:Nat)+z.evs.length - 1))).map Ev.c) R (by rw [he,hm,R6 hx hy];exact V6)<|Ap<|?_
 exact Ai6 (l:= [(10, .ptr 10 0 0),(11, .d (dI 0)),(18, .ptr 18 0 0)]) (by kernel_rfl) (rs0 R R) (fz ⟨sr,sr,sr,trivial⟩) (gz ⟨R,R,R,trivial⟩)
 refine zs<|zr<|zm R R<|zp (As R R R)<|zm R R<|?_
 refine XL.dec 8 R (fun g8s=> ?_) (fun g8s=> ?_)
 refine zk 5 R<|zq R R R<|zn<|Aq (by kernel_rfl) R<|zt<|?_
 exact Tm (l:= [(9, .ptr 9 0 0),(10, .ptr 10 0 0),(11, .d (dI 0)),(13, .d (dI (f:Nat))),(18, .ptr 18 0 0)]) (by kernel_rfl) (rs0 R R) (fz ⟨sr,sr,sr,sr,sr,trivial⟩) (gz ⟨R,R,R,Pw (J6 (.inl g8s)).symm,trivial⟩)
 refine zm R R<|zp (Aj R R R (by omega) (by omega))<|zp (Aw R (by conv=>lhs;whnf))<|?_
 refine zp (Cg R R R Tryz.underlying22)<|zp (Dr R R R)<|zq R R R<|zn<|?_
 refine zd R (fun c14s=> ?_) (fun c14s=> ?_)
 refine zt<|?_
 exact Tm (l:= [(9, .ptr 9 0 0),(10, .ptr 10 0 0),(11, .d (dI 0)),(13, .d (dI (f:Nat))),(18, .ptr 18 0 0)]) (by kernel_rfl) (rs0 R R) (fz ⟨sr,sr,sr,sr,sr,trivial⟩) (gz ⟨R,R,R,Pw (J6 (.inr (by omega))).symm,trivial⟩)
 refine zi<|zs<|?_
 obtain ⟨m,hm⟩:∃m:Nat,(((f:Nat) - 1):Int)=m:=⟨(((f:Nat) - 1):Int).toNat,by omega⟩
 obtain ⟨x,hx⟩:∃x,((A8 d f (l - f) z).evs)[m]? =some x:=Au (by omega)
 obtain ⟨y,hy⟩:∃y,((A8 d f (l - f) z).evs)[m+1]? =some y:=Au (by omega)
 have hxf:x.fit:=hfe x (List.mem_of_getElem? hx)
 have hxh:=hxf.1
 refine Af (by kernel_rfl)<|zp (Aw R (by conv=>lhs;whnf))<|?_
 refine zm R R<|zp (Aw R (by conv=>lhs;whnf))<|?_
 refine zm R R<|zp (Cu R R R (hm) R B5 (by omega))<|zp (Aa R R Bi)<|zp (F8 R R Ct R (Cf hx) R)<|XL.callS R R ((Il _ (by omega)).lab 7003) R<|XL.toS (i:=7001) R<|zp (Fk R R R (hm) R B5 (Abe (by omega)))<|zp (Aa R R Bi)<|XL.step R (Ry R R R (R9 hx) R H4 R lb)<|znr<|zp (Aw R (by conv=>lhs;whnf))<|?_
 refine zm R R<|zp (Fk R R R (hm) R B5 (Ju (by omega)))<|zp (Aa R R Bi)<|zp (F0 R R Ct R (Qz hx) R)<|zp (Cg R R R Tryz.underlying48)<|zm R R<|zn<|Ah<|?_
 refine Ay (α:=Nat) (fun j=>j≤x.heads.length) (fun j=>mkF [(0, .own 7001),(1, .d (dI ((f:Nat) - 1))),(30, .d (dI x.heads.length)),(31, .d (dI (j:Nat)))]) (fun j=>mkH [(9, .box ((Vo.c z).map S.d)),(10, .box [.d (.v (.slice none 0 0)), .d (.v (.slice none 0 0))]),(18, .box [.own 7001, .d (.sl 4 ((A8 d f (l - f) z).tups.map Tp.c))]),(7001, .rowS 60 13 ((F4 ((A8 d f (l - f) z).evs)).set m (evO x 7003))),(7003, .row 91 5 ((In (Hl y) x.heads j).map Hd.c)),(900001, .ghost u1 [(9, .ptr 9 0 0),(10, .ptr 10 0 0),(11, .d (dI 0)),(13, .d (dI (f:Nat))),(18, .ptr 18 0 0)])]) (fun j=>x.heads.length - j) (0) (Nat.zero_le _) ?_ ?_ ?_
 exact fz ⟨sr,sr,sr,sr,trivial⟩
 exact gz ⟨R,R,R,R,by rw [←Nk];rfl,rfl,trivial⟩
 intro j hk0s
 refine zr<|zp (As R R R)<|zn<|zs<|?_
 refine zd R (fun c32s=> ?_) (fun c32s=> ?_)
 have hjl:j<x.heads.length:=by omega
 obtain ⟨hd,hh⟩:=Au hjl
 have hml:=Le (Hl y) x.heads j
 have hg:=O8 (f:=Hl y) hh
 refine zi<|zs<|Ah<|zr<|zm R R<|za R R<|znr<|zp (Aw R (by conv=>lhs;whnf))<|?_
 refine zm R R<|zp (Fk R R R (hm) R B5 (Ju (by omega)))<|zp (Aa R R Bi)<|zp (F0 R R Ct R (Qz hx) R)<|zm R R<|zp (Cu R R R (R) R Fl (by rw [Le];omega))<|XL.step R (A0 2005 (l:= [.d (.v (.pointer none))]) R Aan (by kernel_rfl))<|XL.step R (Ag (l':= [.ptr 7003 _ _]) R R R R Ama R lb R)<|zn<|?_
 refine Aap (i:=7001) (l':=(F4 ((A8 d f (l - f) z).evs)).set m (evO x 7003)) R (Yr (by decide))<|?_
 by_cases q45:hd.tied=true
 by_cases q53s:(y.kind:Int)=(1:Int)
 refine Ce 24 [] (by kernel_rfl) (by kernel_rfl) (by kernel_rfl) (by kernel_rfl) (by decide)<|yp (Ab R R Iu R R)<|yp (Ab R R Iu R R)<|yp (Gg R R)<|yp (Aa R R Dv)<|yp (Abw (F8 R R Kv R (Cf hg) R) q45)<|ym R R<|yp (Aw R (by conv=>lhs;whnf))<|?_
 refine ym R R<|yp (Aj R R R (by omega) (by omega))<|yp (Fk R R R (show _=((m+1:Nat):Int) by omega) rfl B5 (Ju (by omega)))<|yp (Aa R R B2)<|yp (F0 R R Ai R (Lc hy) R)<|yp (Dz (A5 R R R) (q53s))<|yp (Ba R R (by conv=>lhs;whnf))<|?_
 refine ym R R<|yp (Aw R (by conv=>lhs;whnf))<|?_
 refine ym R R<|yp (Aj R R R (by omega) (by omega))<|yp (Fk R R R (show _=((m+1:Nat):Int) by omega) rfl B5 (Ju (by omega)))<|yp (Aa R R Bi)<|yp (F0 R R Ct R (Lc hy) R)<|yp (Ako R)<|?_
 refine ChK.cons R (CStep.lend R (Su y.heads 135 [.pt [.pt (Hd.c hd)]] (fun o=>decide (o.p=hd.p)) (fun o _=>Aif o hd)) (.cons (.d _) (.cons (.fn .nil (.cons (.pbox R R (.cons (.prow R (Cf hg)) .nil)) .nil)) .nil)))<|yp (Ba R R (by conv=>lhs;whnf))<|?_
 refine ChK.nil ⟨by kernel_rfl, ?_⟩
 refine zp (Gg R R)<|zp (Aa R R Dv)<|XL.step R (Dk R R R (Cf hg) R R Pt R lb)<|zn<|Af (by kernel_rfl)<|zp (Aj R R R (by omega) (by omega))<|zm R R<|zn<|?_
 exact Ak (j+1) (by omega) (by omega) (fz ⟨sr,sr,sr,sr,trivial⟩) (gz ⟨R,R,R,R,L8 (a:=Hl y hd) (by rw [Amm q45 q53s];rfl) (I2 hh),R,trivial⟩)
 refine Ce 24 [] (by kernel_rfl) (by kernel_rfl) (by kernel_rfl) (by kernel_rfl) (by decide)<|yp (Ab R R Iu R R)<|yp (Ab R R Iu R R)<|yp (Gg R R)<|yp (Aa R R Dv)<|yp (Abw (F8 R R Kv R (Cf hg) R) q45)<|ym R R<|yp (Aw R (by conv=>lhs;whnf))<|?_
 refine ym R R<|yp (Aj R R R (by omega) (by omega))<|yp (Fk R R R (show _=((m+1:Nat):Int) by omega) rfl B5 (Ju (by omega)))<|yp (Aa R R B2)<|yp (F0 R R Ai R (Lc hy) R)<|yp (F7 (A5 R R R) (q53s))<|yp (Ba R R (by conv=>lhs;whnf))<|?_
 refine ym R R<|ChK.skip R<|ChK.skip R<|ChK.skip R<|ChK.skip R<|ChK.skip R<|ChK.skip R<|ChK.skip R<|ChK.skip R<|yp (Ba R R (by conv=>lhs;whnf))<|?_
 refine ChK.nil ⟨by kernel_rfl, ?_⟩
 refine zp (Gg R R)<|zp (Aa R R Dv)<|XL.step R (Dk R R R (Cf hg) R R Pt R lb)<|zn<|Af (by kernel_rfl)<|zp (Aj R R R (by omega) (by omega))<|zm R R<|zn<|?_
 exact Ak (j+1) (by omega) (by omega) (fz ⟨sr,sr,sr,sr,trivial⟩) (gz ⟨R,R,R,R,L8 (a:=Hl y hd) (by rw [Aml q53s];rfl) (I2 hh),R,trivial⟩)
 refine Ce 24 [] (by kernel_rfl) (by kernel_rfl) (by kernel_rfl) (by kernel_rfl) (by decide)<|yp (Ab R R Iu R R)<|yp (Ab R R Iu R R)<|yp (Gg R R)<|yp (Aa R R Dv)<|yp (Apz (F8 R R Kv R (Cf hg) R) q45)<|ym R R<|ChK.skip R<|ChK.skip R<|ChK.skip R<|ChK.skip R<|ChK.skip R<|ChK.skip R<|ChK.skip R<|?_
 refine yp (Ba R R (by conv=>lhs;whnf))<|?_
 refine ym R R<|ChK.skip R<|ChK.skip R<|ChK.skip R<|ChK.skip R<|ChK.skip R<|ChK.skip R<|ChK.skip R<|ChK.skip R<|yp (Ba R R (by conv=>lhs;whnf))<|?_
 refine ChK.nil ⟨by kernel_rfl, ?_⟩
 refine zp (Gg R R)<|zp (Aa R R Dv)<|XL.step R (Dk R R R (Cf hg) R R Pt R lb)<|zn<|Af (by kernel_rfl)<|zp (Aj R R R (by omega) (by omega))<|zm R R<|zn<|?_
 exact Ak (j+1) (by omega) (by omega) (fz ⟨sr,sr,sr,sr,trivial⟩) (gz ⟨R,R,R,R,L8 (a:=Hl y hd) (by rw [Amk q45];rfl) (I2 hh),R,trivial⟩)
 have he:=O9 (f:=Hl y) (l:=x.heads) (k:=j) (by omega)
 refine Yd (i:=7003) R<|Al2 (i:=7001) (l:=(B9 ((A8 d f (l - f) z).evs) (((f:Nat) - 1))).map Ev.c) R (by rw [he,hm,R6 hx hy];exact V6)<|Ap<|?_
 exact Ai6 (l:= [(9, .ptr 9 0 0),(10, .ptr 10 0 0),(11, .d (dI 0)),(13, .d (dI (f:Nat))),(18, .ptr 18 0 0)]) (by kernel_rfl) (rs0 R R) (fz ⟨sr,sr,sr,sr,sr,trivial⟩) (gz ⟨R,R,R,R,trivial⟩)
end Go.Proofs.YtcihalbakenleaaGreat
namespace Go.Proofs.YtcihalbakenleaaGreat
open Go.RowKit
theorem Ap9 {l:List Hd} {k:Nat} {x:Hd} {q:Pit} (h:l[k]? =some x) (e:x.p=q):true=Lv l q:=by
 symm;rw [Lv,List.any_eq_true];exact ⟨x,List.mem_of_getElem? h,decide_eq_true e⟩
theorem As9 {l:List Hd} {q:Pit} (h:∀(j:Nat) x,l[j]? =some x→x.p≠q):false=Lv l q:=by
 symm;rw [Lv,List.any_eq_false]
 intro x hx
 obtain ⟨j,hj⟩:=List.getElem?_of_mem hx
 simpa using h j x hj
def Pd (y:Ev) (h:Hd):Hd:=⟨h.p,h.tied && Lv y.heads h.p,h.sh⟩
def Aaf (x y:Ev):Ev:=x.reh (x.heads.map (Pd y))
theorem Atl {y:Ev} {x:Hd} (h:x.tied=true):Pd y x=⟨x.p,Lv y.heads x.p,x.sh⟩:=by unfold Pd;rw [h];rfl
theorem Atk {y:Ev} {x:Hd} (h:x.tied=false):Pd y x=⟨x.p,false,x.sh⟩:=by unfold Pd;rw [h,Bool.false_and]
theorem Ab7 {α β:Type} {f:α→β} {l:List α} {k:Nat} {x:α} {y:β} (h:l[k]? =some x) (hy:f x=y):(l.take (k+1)).map f=(l.take k).map f++ [y]:=by
 rw [Bp h,List.map_append, ←hy];rfl
theorem Amn {x y:Ev} (h:y.err=0):N3 x y=Aaf x y:=by
 unfold N3 Aaf
 congr 1
 refine List.map_congr_left fun g _=> ?_
 unfold Hl Pd
 by_cases c:y.kind=1
 ·rw [decide_eq_true c];rfl
 ·rw [Ev.no_heads h c,decide_eq_false c];rfl
theorem Ap8 (x:Ev) (q:Pit):XC Tryz.prog 136 [.agg (Ev.c x), .agg (Pit.c q)] (fun r=>r=dB (Lv x.heads q)):=by
 refine Ao Aej Tryz.func136 R R lb<|zr<|XL.step R (At 2 (l:= [.d (dI x.site), .d (dI x.num), .d (dI x.kind), .d (dI x.v.log), .d (dI x.v.dots), .d (.sl 5 (x.heads.map Hd.c)), .d (.sl 5 (x.graces.map Gr.c)), .d (dI x.art), .d (dI x.orn), .d (dI x.dyn), .d (.sl 2 (x.lyr.map Sy.c)), .d (dI x.stem), .d (dI x.beam)]) R R (by kernel_rfl))<|?_
 refine XL.step R (At 3 (l:= [.d (dI q.step), .d (dI q.alter), .d (dI q.oct)]) R R (by kernel_rfl))<|za R R<|zn<|zs<|zr<|za R R<|zn<|Ah<|?_
 refine Ay (α:=Nat) (fun k=>k≤x.heads.length∧∀(j:Nat) z,j<k→x.heads[j]? =some z→z.p≠q) (fun k=>mkF [(2, .ptr 2 0 0),(3, .ptr 3 0 0),(5, .d (dI k))]) (fun k=>mkH [(2, .box ((Ev.c x).map S.d)),(3, .box ((Pit.c q).map S.d))]) (fun k=>x.heads.length - k) (0) (⟨Nat.zero_le _,fun j z hj=>absurd hj (Nat.not_lt_zero _)⟩) ?_ ?_ ?_
 exact fz ⟨sr,sr,sr,trivial⟩
 exact gz ⟨R,R,trivial⟩
 intro k hk0
 obtain ⟨hk,hall⟩:=hk0
 refine zs<|zr<|zm R R<|zp (Aa R R Bi)<|zp (Ab R R Ct R R)<|XL.len R R R Tryz.underlying48 fun hl9=>zp (As R R R)<|zn<|?_
 refine zd R (fun c10=> ?_) (fun c10=> ?_)
 have hk0a:k<x.heads.length:=by omega
 obtain ⟨x0,hx0⟩:=Au hk0a
 refine zi<|zs<|Ah<|zs<|Bm [] (by kernel_rfl) (by kernel_rfl) (by kernel_rfl) (by decide)<|yp (Aa R R Bi)<|yp (Ab R R Ct R R)<|ym R R<|yp (Am R R R Fl hx0)<|yp (Bq R R Gp)<|yp (Ae (s':= .d (.agg (Pit.c x0.p))) (Av R R E0 lb) (by kernel_rfl))<|?_
 refine yp (Ae (s':= .d (.agg (Pit.c q))) (Ac (Ad R R E0 R lb)) (by kernel_rfl))<|yp (Abv R R R)<|?_
 refine ChK.nil ⟨by kernel_rfl, ?_⟩
 refine zd R (fun c20=> ?_) (fun c20=> ?_)
 exact zr<|za R R<|zn<|zt<|z1 R R (rB (Ap9 hx0 (Pit.eq_of c20)))
 refine zi<|Af (by kernel_rfl)<|zm R R<|zp (Aj R R R (by omega) (by omega))<|za R R<|zn<|?_
 exact Ak (k+1) (⟨by omega,fun j z hj hz=>by by_cases e:j=k;(· subst e;rw [hx0] at hz;cases hz;exact fun e=>c20 (by rw [e];exact ⟨rfl,rfl,rfl⟩));(· exact hall j z (by omega) hz)⟩) (by omega) (fz ⟨sr,sr,sr,trivial⟩) (gz ⟨rfl,rfl,trivial⟩)
 have hk0b:k=x.heads.length:=by omega
 exact Ap<|zr<|za R R<|zn<|zt<|z1 R R (rB (As9 (fun j z hz=>hall j z (by have:=(List.getElem?_eq_some_iff.1 hz).1;omega) hz)))
theorem Xx (x y:Ev) (h:x.heads.length≤1000):XC Tryz.prog 90 [.agg (Ev.c x), .agg (Ev.c y)] (fun r=>r= .agg (Ev.c (Aaf x y))):=by
 refine Ao Age Tryz.func90 R R lb<|zr<|XL.step R (At 2 (l:= [.d (dI x.site), .d (dI x.num), .d (dI x.kind), .d (dI x.v.log), .d (dI x.v.dots), .d (.sl 5 (x.heads.map Hd.c)), .d (.sl 5 (x.graces.map Gr.c)), .d (dI x.art), .d (dI x.orn), .d (dI x.dyn), .d (.sl 2 (x.lyr.map Sy.c)), .d (dI x.stem), .d (dI x.beam)]) R R (by kernel_rfl))<|?_
 refine XL.step R (At 3 (l:= [.d (dI y.site), .d (dI y.num), .d (dI y.kind), .d (dI y.v.log), .d (dI y.v.dots), .d (.sl 5 (y.heads.map Hd.c)), .d (.sl 5 (y.graces.map Gr.c)), .d (dI y.art), .d (dI y.orn), .d (dI y.dyn), .d (.sl 2 (y.lyr.map Sy.c)), .d (dI y.stem), .d (dI y.beam)]) R R (by kernel_rfl))<|?_
 refine XL.step R (A0 4 (l:= [.d (dI 0), .d (dI 0), .d (dI 0), .d (dI 0), .d (dI 0), .d (.v (.slice none 0 0)), .d (.v (.slice none 0 0)), .d (dI 0), .d (dI 0), .d (dI 0), .d (.v (.slice none 0 0)), .d (dI 0), .d (dI 0)]) R Bw (by kernel_rfl))<|znr<|zp (Aa R R Bi)<|zp (Ab R R Ct R R)<|za R R<|znr<|zp (Aa R R Bi)<|?_
 refine XL.step R (Ag (l':= [.d (dI x.site), .d (dI x.num), .d (dI x.kind), .d (dI x.v.log), .d (dI x.v.dots),_, .d (.sl 5 (x.graces.map Gr.c)), .d (dI x.art), .d (dI x.orn), .d (dI x.dyn), .d (.sl 2 (x.lyr.map Sy.c)), .d (dI x.stem), .d (dI x.beam)]) R R R R H4 R lb R)<|zn<|zs<|zr<|za R R<|zn<|Ah<|?_
 refine Kx 901 2 5 91 5 (l':= [.d (dI x.site), .d (dI x.num), .d (dI x.kind), .d (dI x.v.log), .d (dI x.v.dots), .own 901, .d (.sl 5 (x.graces.map Gr.c)), .d (dI x.art), .d (dI x.orn), .d (dI x.dyn), .d (.sl 2 (x.lyr.map Sy.c)), .d (dI x.stem), .d (dI x.beam)]) R R (by decide) (by kernel_rfl)<|?_
 refine Ay (α:=Nat) (fun k=>k≤x.heads.length) (fun k=>mkF [(2, .ptr 2 0 0),(3, .ptr 3 0 0),(4, .ptr 4 0 0),(5, .d (.sl 5 (x.heads.map Hd.c))),(6, .d (dI k))]) (fun k=>mkH [(2, .box [.d (dI x.site), .d (dI x.num), .d (dI x.kind), .d (dI x.v.log), .d (dI x.v.dots), .own 901, .d (.sl 5 (x.graces.map Gr.c)), .d (dI x.art), .d (dI x.orn), .d (dI x.dyn), .d (.sl 2 (x.lyr.map Sy.c)), .d (dI x.stem), .d (dI x.beam)]),(3, .box ((Ev.c y).map S.d)),(4, .box [.d (dI 0), .d (dI 0), .d (dI 0), .d (dI 0), .d (dI 0), .d (.v (.slice none 0 0)), .d (.v (.slice none 0 0)), .d (dI 0), .d (dI 0), .d (dI 0), .d (.v (.slice none 0 0)), .d (dI 0), .d (dI 0)]),(901, .row 91 5 (((x.heads.take k).map (Pd y)).map Hd.c))]) (fun k=>x.heads.length - k) (0) (Nat.zero_le _) ?_ ?_ ?_
 exact fz ⟨sr,sr,sr,sr,sr,trivial⟩
 exact gz ⟨R,R,R,R,trivial⟩
 intro k hk0
 refine zs<|zr<|zm R R<|zm R R<|XL.len R R R Tryz.underlying48 fun hl13=>zp (As R R R)<|zn<|?_
 refine zd R (fun c14=> ?_) (fun c14=> ?_)
 have hk0a:k<x.heads.length:=by omega
 obtain ⟨x0,hx0⟩:=Au hk0a
 have htl:((x.heads.take k).map (Pd y)).length=k:=by rw [List.length_map,List.length_take];omega
 refine zi<|zs<|Ah<|zr<|zm R R<|zm R R<|zp (Am R R R Fl hx0)<|zp (Ae (s':= .d (.agg (Hd.c x0))) (Av R R Kk lb) (by kernel_rfl))<|XL.step R (A0 7 (l:= [.d (dI 0), .d (dI 0), .d (dI 0), .d (dB false), .d (dI 0)]) R H9 (by kernel_rfl))<|?_
 refine XL.step R (Ag (l':= [.d (dI x0.p.step), .d (dI x0.p.alter), .d (dI x0.p.oct), .d (dB x0.tied), .d (dI x0.sh)]) R R R R Nf R lb (by kernel_rfl))<|znr<|zp (Aa R R Dv)<|zp (Ab R R Kv R R)<|zm R R<|?_
 refine XL.bool 23 R (fun g23=> ?_) (fun g23=> ?_)
 refine zp (Ae (s':= .d (.agg (Ev.c y))) (Ac (Ad R R A3 R lb)) (by kernel_rfl))<|zp (Aa R R Gp)<|zp (Ae (s':= .d (.agg (Pit.c x0.p))) (Ac (Ad R R E0 R lb)) (by kernel_rfl))<|XL.call1 R R (Ap8 _ _) R<|zq R R R<|zp (Aa R R Dv)<|?_
 refine XL.step R (Ag (l':= [.d (dI x0.p.step), .d (dI x0.p.alter), .d (dI x0.p.oct), .d (dB (Lv y.heads x0.p)), .d (dI x0.sh)]) R R R R Pt R lb (by kernel_rfl))<|zng<|zp (Aa R R Bi)<|zp (Ab R R Ct R R)<|?_
 refine zp (Ae (s':= .d (.agg [dI x0.p.step,dI x0.p.alter,dI x0.p.oct,dB (Lv y.heads x0.p),dI x0.sh])) (Ac (Ad R R Kk R lb)) (by kernel_rfl))<|XL.step R (Bj 33 R Tryz.underlying48 Nf H9 R R (by omega) (by omega))<|XL.step R (A7 R Ss (.own R) (Src.own R) (by unfold maxLen;simp;omega) (by simp;omega))<|zp (Aa R R Bi)<|?_
 refine XL.step R (Ag (l':= [.d (dI x.site), .d (dI x.num), .d (dI x.kind), .d (dI x.v.log), .d (dI x.v.dots), .own 901, .d (.sl 5 (x.graces.map Gr.c)), .d (dI x.art), .d (dI x.orn), .d (dI x.dyn), .d (.sl 2 (x.lyr.map Sy.c)), .d (dI x.stem), .d (dI x.beam)]) R R R R H4 R lb (by kernel_rfl))<|zn<|Af (by kernel_rfl)<|zm R R<|zp (Aj R R R (by omega) (by omega))<|za R R<|zn<|?_
 exact Ak (k+1) (by omega) (by omega) (fz ⟨sr,sr,sr,sr,sr,trivial⟩) (gz ⟨R,R,R,Ea (by rw [Atl g23];rfl) (Ab7 hx0 R),trivial⟩)
 refine zk 4 R<|zq R R R<|zp (Aa R R Dv)<|XL.step R (Ag (l':= [.d (dI x0.p.step), .d (dI x0.p.alter), .d (dI x0.p.oct), .d (dB false), .d (dI x0.sh)]) R R R R Pt R lb (by kernel_rfl))<|zng<|zp (Aa R R Bi)<|zp (Ab R R Ct R R)<|?_
 refine zp (Ae (s':= .d (.agg [dI x0.p.step,dI x0.p.alter,dI x0.p.oct,dB false,dI x0.sh])) (Ac (Ad R R Kk R lb)) (by kernel_rfl))<|XL.step R (Bj 33 R Tryz.underlying48 Nf H9 R R (by omega) (by omega))<|XL.step R (A7 R Ss (.own R) (Src.own R) (by unfold maxLen;simp;omega) (by simp;omega))<|zp (Aa R R Bi)<|?_
 refine XL.step R (Ag (l':= [.d (dI x.site), .d (dI x.num), .d (dI x.kind), .d (dI x.v.log), .d (dI x.v.dots), .own 901, .d (.sl 5 (x.graces.map Gr.c)), .d (dI x.art), .d (dI x.orn), .d (dI x.dyn), .d (.sl 2 (x.lyr.map Sy.c)), .d (dI x.stem), .d (dI x.beam)]) R R R R H4 R lb (by kernel_rfl))<|zn<|Af (by kernel_rfl)<|zm R R<|zp (Aj R R R (by omega) (by omega))<|za R R<|zn<|?_
 exact Ak (k+1) (by omega) (by omega) (fz ⟨sr,sr,sr,sr,sr,trivial⟩) (gz ⟨R,R,R,Ea (by rw [Atk g23];rfl) (Ab7 hx0 R),trivial⟩)
 have hk0b:k=x.heads.length:=by omega
 have ht:x.heads.take k=x.heads:=by rw [hk0b,List.take_length]
 refine Ap<|zr<|zp (Ac (Ad R R A3 R lb))<|XL.step R (Ag (l':= [.d (dI x.site), .d (dI x.num), .d (dI x.kind), .d (dI x.v.log), .d (dI x.v.dots), .own 901, .d (.sl 5 (x.graces.map Gr.c)), .d (dI x.art), .d (dI x.orn), .d (dI x.dyn), .d (.sl 2 (x.lyr.map Sy.c)), .d (dI x.stem), .d (dI x.beam)]) R R R R B4 R lb (by kernel_rfl))<|zn<|zt<|Bg (i:=901) R<|?_
 exact F6 R (RV.cells R R R A3 lb R) (by rw [ht];rfl)
def H6 (x:Vo):Int:=if 128<x.evs.length then 9 else if Da 2 0 x.evs≠0 then Da 2 0 x.evs else if C1 x.tups (wrS x.evs)≠0 then C1 x.tups (wrS x.evs) else if F3 x.tups (wrS x.evs)≠0 then 21 else 0
theorem Ace {n m:Nat}:∀{l:List Ev} {k:Nat},0<k→Da n k l=Da m k l
 | [],k,_=>rfl
 |e::r,k,h=>by
  rw [Da,Da,Ace (n:=n) (m:=m) (l:=r) (k:=k+1) (by omega)]
  by_cases c:e.err≠0
  ·rw [if_pos c,if_pos c]
  ·rw [if_neg c,if_neg c]
   by_cases c2:e.kind=3
   ·rw [if_pos ⟨c2, .inl h⟩,if_pos ⟨c2, .inl h⟩]
   ·rw [if_neg (fun k=>c2 k.1),if_neg (fun k=>c2 k.1)]
theorem Qb {x:Vo} {k:Nat} (h:¬128<(x.evs.length:Int)) {a:Int} (ha:Da 2 0 x.evs=a) (h0:a≠0):a=H6 x:=by rw [H6,if_neg (by omega),ha,if_pos h0]
theorem Abr {x:Vo} (h:¬128<(x.evs.length:Int)) (h0:Da 2 0 x.evs=0) (h2:C1 x.tups (wrS x.evs)≠0):C1 x.tups (wrS x.evs)=H6 x:=by rw [H6,if_neg (by omega),if_neg (by omega),if_pos h2]
theorem Au0 {x:Vo} {k:Nat} {t:Tp} (h:¬128<(x.evs.length:Int)) (h0:Da 2 0 x.evs=0) (h2:¬C1 x.tups (wrS x.evs)≠0) (ht:x.tups[k]? =some t) (hn:(!(Fv (Ky x.tups k) t (wrS x.evs)).isSome)=true):21=H6 x:=by
 rw [H6,if_neg (by omega),if_neg (by omega),if_neg h2,if_pos];rw [←(Aj2 h2 ht hn).2];decide
theorem Au1 {x:Vo} (h:¬128<(x.evs.length:Int)) (h0:Da 2 0 x.evs=0) (h2:¬C1 x.tups (wrS x.evs)≠0) (hn:Js x.tups (wrS x.evs)):0=H6 x:=by
 rw [H6,if_neg (by omega),if_neg (by omega),if_neg h2,if_neg];rw [←(Aj1 h2 hn).2];decide
theorem Rj {l:List Ev} (h:Da 2 0 l=0):∀e∈l,e.err=0∧e.kind≠3:=fun e he=>by
 obtain ⟨j,hj⟩:=List.getElem?_of_mem he
 have:=inGo_zero.1 h j e hj
 exact ⟨this.1,fun k=>this.2 ⟨k, .inr (by decide)⟩⟩
theorem Aix {x:Vo} (h:Da 2 0 x.evs=0):¬x.rest:=fun k=>by
 obtain ⟨e,he⟩:=N0 k.1
 exact (Rj h e (List.mem_of_getElem? he)).2 ((Ha he).1 k.1)
theorem Apq {x:Vo} {v d:Vo} {a b:Int} {f l:Nat} (h:H6 x≠0):Jn v a b d f l x=(⟨[], []⟩,H6 x):=by
 by_cases c1:128<(x.evs.length:Int)
 ·rw [Apn c1,H6,if_pos (by omega)]
 ·by_cases c2:x.whole
  ·obtain ⟨e,he⟩:=N0 c2
   have hk:=(Ha he).1 c2
   have hg:Da 2 0 x.evs=if e.err≠0 then e.err else 11:=by
    cases hx:x.evs with
    |nil=>rw [hx] at he;cases he
    |cons y r=>
     rw [hx] at he;cases he
     rw [Da]
     by_cases c:e.err≠0
     ·rw [if_pos c,if_pos c]
     ·rw [if_neg c,if_neg c,if_pos ⟨hk, .inr (by decide)⟩]
   by_cases c3:e.err≠0
   ·rw [if_pos c3] at hg
    rw [Apm c1 c2 he c3, ←Qb (k:=0) c1 hg c3]
   ·rw [if_neg c3] at hg
    rw [Apl c1 c2 he c3, ←Qb (k:=0) c1 hg (by decide)]
  ·have hp:H6 x=Dq x:=by
    have hg:Da 2 0 x.evs=Da x.evs.length 0 x.evs:=by
     cases hx:x.evs with
     |nil=>rfl
     |cons y r=>
      have hy:¬y.kind=3:=fun k=>c2 ((Ha (show x.evs[0]? =some y by rw [hx];rfl)).2 k)
      rw [Da,Da,if_neg (show ¬(y.kind=3∧_) from fun k=>hy k.1),if_neg (show ¬(y.kind=3∧_) from fun k=>hy k.1),Ace (by omega)]
    unfold H6 Dq
    rw [if_neg (by omega),hg]
   rw [Apk c1 c2 (by rw [←hp];exact h),hp]
theorem As3 {x:Vo} (h:H6 x=0):¬128<(x.evs.length:Int)∧¬x.whole∧Dq x=0∧¬x.rest:=by
 have c1:¬128<(x.evs.length:Int):=fun c=>by rw [H6,if_pos (by omega)] at h;cases h
 have hg:Da 2 0 x.evs=0:=Decidable.byContradiction fun c=>by rw [←Qb (k:=0) c1 rfl c] at h;exact c h
 have hr:=Aix hg
 have hw:¬x.whole:=fun k=>by
  obtain ⟨e,he⟩:=N0 k
  exact (Rj hg e (List.mem_of_getElem? he)).2 ((Ha he).1 k)
 refine ⟨c1,hw,innE_zero.2 ⟨inGo_zero.2 fun j e hj=> ?_, ?_, ?_⟩,hr⟩
 ·have:=Rj hg e (List.mem_of_getElem? hj)
  exact ⟨this.1,fun k=>this.2 k.1⟩
 ·exact Decidable.byContradiction fun c=>by rw [←Abr c1 hg c] at h;exact c h
 ·refine Decidable.byContradiction fun c=> ?_
  have h2:¬C1 x.tups (wrS x.evs)≠0:=fun c=>by rw [←Abr c1 hg c] at h;exact c h
  rw [H6,if_neg (by omega),if_neg (by omega),if_neg h2,if_pos c] at h
  cases h
theorem Aj8 (v:Vo) (hE:Evs v.evs) (ht:v.tups.length≤1000):XC Tryz.prog 57 [.agg (Vo.c v), .v (.bool false)] (fun r=>r=dI (H6 v)):=by
 refine Ao Uh Tryz.func57 R R lb<|zr<|XL.step R (At 2 (l:= [.d (.sl 13 (v.evs.map Ev.c)), .d (.sl 4 (v.tups.map Tp.c))]) R R (by kernel_rfl))<|za R R<|zn<|zs<|zr<|zp (Aa R R Ax)<|zp (Ab R R Bk R R)<|XL.len R R R Tryz.underlying22 fun hl14=>zp (Bb R R R)<|zn<|?_
 refine zd R (fun c15=> ?_) (fun c15=> ?_)
 exact zr<|za R R<|zn<|zt<|z1 R R (rI (by rw [H6,if_pos (by omega)]))
 refine zi<|zs<|zr<|za R R<|zn<|Ah<|?_
 refine Ay (α:=Nat) (fun k=>k≤v.evs.length∧Da 2 k (v.evs.drop k)=Da 2 0 v.evs) (fun k=>mkF [(1, .d (dB false)),(2, .ptr 2 0 0),(5, .d (dI k))]) (fun k=>mkH [(2, .box ((Vo.c v).map S.d))]) (fun k=>v.evs.length - k) (0) (⟨Nat.zero_le _,by rw [List.drop_zero]⟩) ?_ ?_ ?_
 exact fz ⟨sr,sr,sr,trivial⟩
 exact gz ⟨R,trivial⟩
 intro k hk0
 obtain ⟨hk,hgo⟩:=hk0
 refine zs<|zr<|zm R R<|zp (Aa R R Ax)<|zp (Ab R R Bk R R)<|XL.len R R R Tryz.underlying22 fun hl19=>zp (As R R R)<|zn<|?_
 refine zd R (fun c20=> ?_) (fun c20=> ?_)
 have hk0a:k<v.evs.length:=by omega
 obtain ⟨x0,hx0⟩:=Au hk0a
 have he:=hE x0 (List.mem_of_getElem? hx0)
 refine zi<|zs<|Ah<|zs<|zr<|zp (Aa R R Ax)<|zp (Ab R R Bk R R)<|zm R R<|zp (Am R R R B5 hx0)<|zp (Ae (s':= .d (.agg (Ev.c x0))) (Av R R A3 lb) (by kernel_rfl))<|XL.call1 R R (T2 _ (by assumption)) R<|za R R<|znr<|zm R R<|?_
 refine zp (Be R R R)<|zn<|?_
 refine zd R (fun c30=> ?_) (fun c30=> ?_)
 exact zr<|zm R R<|za R R<|zn<|zt<|z1 R R (rI (Qb (k:=k) c15 (by rw [←hgo,Ri hx0 c30]) c30))
 refine zi<|zr<|zp (Aa R R Ax)<|zp (Ab R R Bk R R)<|zm R R<|zp (Am R R R B5 hx0)<|zp (Bq R R B2)<|zp (Az R R Ai)<|zp (A5 R R R)<|zm R R<|?_
 refine XL.dec 39 R (fun g39=> ?_) (fun g39=> ?_)
 exact zm R R<|zm R R<|zk 4 R<|zq R R R<|zp (Dd R R)<|zq R R R<|zn<|Aq (by kernel_rfl) R<|zr<|za R R<|zn<|zt<|z1 R R (rI (Qb (k:=k) c15 (by rw [←hgo,Lf hx0 c30 ⟨g39, .inr (by decide)⟩]) (by decide)))
 refine zk 8 R<|zq R R R<|zn<|A9 (by kernel_rfl) R<|zi<|Af (by kernel_rfl)<|zm R R<|zp (Aj R R R (by omega) (by omega))<|za R R<|zn<|?_
 exact Ak (k+1) (⟨by omega,by rw [←M1 hx0 c30 (by omega)];exact hgo⟩) (by omega) (fz ⟨sr,sr,sr,trivial⟩) (gz ⟨rfl,trivial⟩)
 have hk0b:k=v.evs.length:=by omega
 have hz:Da 2 0 v.evs=0:=by rw [←hgo,hk0b,List.drop_length];rfl
 refine Ap<|zs<|zr<|zp (Ae (s':= .d (.agg (Vo.c v))) (Ac (Ad R R An R lb)) (by kernel_rfl))<|XL.call1 R R (Q0 _) R<|zn<|?_
 refine zd R (fun c50=> ?_) (fun c50=> ?_)
 exfalso;exact Aix hz c50
 refine zi<|zs<|zs<|?_
 have hva:=Rj hz
 refine Bm [] (by kernel_rfl) (by kernel_rfl) (by kernel_rfl) (by decide)<|yp (Aa R R Bn)<|yp (Ab R R B1 R R)<|ChK.cons R (CStep.call R (J9 _ (by omega)) R)<|yp (Aa R R Ax)<|yp (Ab R R Bk R R)<|ChK.cons R (CStep.call R (Jt _ (by assumption) (by omega)) R)<|ChK.cons R (CStep.call R (Kz _ _) R)<|ym R R<|yp (A6 R R R)<|?_
 refine yp (A6 R R R)<|ya R R<|ya R R<|?_
 refine ChK.nil ⟨by kernel_rfl, ?_⟩
 refine zr<|zm R R<|zp (Be R R R)<|zn<|?_
 refine zd R (fun c66=> ?_) (fun c66=> ?_)
 exact zr<|zm R R<|za R R<|zn<|zt<|z1 R R (rI (Abr c15 hz c66))
 refine zi<|zs<|zs<|?_
 have hT:=I1 c66
 have hws:=Ajt hva
 refine Af (by kernel_rfl)<|za R R<|zn<|Ah<|?_
 refine Ay (α:=Nat) (fun m=>m≤v.tups.length∧∀j,j<m→(Qn v.tups j (wrS v.evs)).isSome=true) (fun m=>mkF [(2, .ptr 2 0 0),(9, .d (dI m))]) (fun m=>mkH [(2, .box ((Vo.c v).map S.d))]) (fun m=>v.tups.length - m) (0) (⟨Nat.zero_le _,fun j hj=>absurd hj (Nat.not_lt_zero _)⟩) ?_ ?_ ?_
 exact fz ⟨sr,sr,trivial⟩
 exact gz ⟨R,trivial⟩
 intro m hk2
 obtain ⟨hm,hall⟩:=hk2
 refine zs<|zr<|zm R R<|zp (Aa R R Bn)<|zp (Ab R R B1 R R)<|XL.len R R R Tryz.underlying23 fun hl71=>zp (As R R R)<|zn<|?_
 refine zd R (fun c72=> ?_) (fun c72=> ?_)
 have hk2a:m<v.tups.length:=by omega
 obtain ⟨x2,hx2⟩:=Au hk2a
 refine zi<|zs<|Ah<|zs<|Bm [] (by kernel_rfl) (by kernel_rfl) (by kernel_rfl) (by decide)<|yp (Aa R R Bn)<|yp (Ab R R B1 R R)<|ChK.cons R (CStep.call R (J9 _ (by omega)) R)<|ym R R<|yp (Aa R R Ax)<|yp (Ab R R Bk R R)<|ChK.cons R (CStep.call R (Jt _ (by assumption) (by omega)) R)<|?_
 refine ChK.cons R (CStep.call R (Yu v.tups m x2 (wrS v.evs) hx2 hT hws) R)<|ym R R<|yp (A6 R R R)<|yp (A6 R R R)<|ya R R<|ya R R<|?_
 refine ChK.nil ⟨by kernel_rfl, ?_⟩
 refine zr<|zm R R<|zp (Dd R R)<|zn<|?_
 refine Dw (by kernel_rfl) R (fun c87=> ?_) (fun c87=> ?_)
 exact zr<|za R R<|zn<|zt<|z1 R R (rI (Au0 c15 hz c66 hx2 c87))
 refine zi<|Af (by kernel_rfl)<|zm R R<|zp (Aj R R R (by omega) (by omega))<|za R R<|zn<|?_
 exact Ak (m+1) (⟨by omega,fun j hj=>by by_cases e:j=m;(· subst e;rw [K4 hx2];exact (by simpa using c87));(· exact hall j (by omega))⟩) (by omega) (fz ⟨sr,sr,trivial⟩) (gz ⟨rfl,trivial⟩)
 have hk2b:m=v.tups.length:=by omega
 have ha:Js v.tups (wrS v.evs):=fun j hj=>hall j (by omega)
 exact Ap<|zr<|za R R<|zn<|zt<|z1 R R (rI (Au1 c15 hz c66 ha))
theorem Abj (v:Vo) (L:Int) (h:Dq v=0) (hr:¬v.rest) (hl:v.evs.length≤128):XC Tryz.prog 32 [.agg (Vo.c v), .v (.int .i64 L)] (fun r=>r= .sl 1 (B8 (D7 v))):=by
 have hsv:=Xy h hl
 have htl:=hsv.tups
 have hva:=Wg (innE_zero.1 h).1 hr
 refine Ao Uj Tryz.func32 R R lb<|zr<|XL.step R (At 2 (l:= [.d (.sl 13 (v.evs.map Ev.c)), .d (.sl 4 (v.tups.map Tp.c))]) R R (by kernel_rfl))<|za R R<|zn<|zs<|zr<|zp (Ae (s':= .d (.agg (Vo.c v))) (Ac (Ad R R An R lb)) (by kernel_rfl))<|XL.call1 R R (Q0 _) R<|zn<|?_
 refine zd R (fun c8=> ?_) (fun c8=> ?_)
 exfalso;exact hr c8
 refine zi<|zs<|Bm [] (by kernel_rfl) (by kernel_rfl) (by kernel_rfl) (by decide)<|yp (Aa R R Bn)<|yp (Ab R R B1 R R)<|ChK.cons R (CStep.call R (J9 _ (by omega)) R)<|yp (Aa R R Ax)<|yp (Ab R R Bk R R)<|ChK.cons R (CStep.call R (Jt _ (by assumption) (by omega)) R)<|ChK.cons R (CStep.call R (Kz _ _) R)<|ym R R<|yp (A6 R R R)<|?_
 refine yp (A6 R R R)<|ya R R<|ya R R<|?_
 refine ChK.nil ⟨by kernel_rfl, ?_⟩
 exact zr<|zm R R<|za R R<|zn<|zt<|z1 R R (rSl (by rw [D7,if_pos h]))
end Go.Proofs.YtcihalbakenleaaGreat
namespace Go.Proofs.YtcihalbakenleaaGreat
open Go.RowKit
theorem Am7 {z:Vo} {a b:Int} (h:Dq z=0) (h2:¬tot (D7 z)≠b - a) (h3:¬a=b):0<z.evs.length:=by
 refine Nat.pos_of_ne_zero fun h0=> ?_
 have hl:=(To h).1
 rw [List.eq_nil_of_length_eq_zero (l:=D7 z) (by omega),Hx] at h2
 omega
theorem Asb {t:Tp} {a b:Int} (h:a=t.first+b): [dI a,dI t.count,dI t.actual,dI t.normal]=Tp.c (t.mv b):=by rw [h];rfl
theorem Q2 {d z:Vo} {f l:Nat} (h:f≤l):(A8 d f (l - f) z).evs=d.evs.take f++z.evs++d.evs.drop l:=by
 show d.evs.take f++z.evs++d.evs.drop (f+(l - f))=_
 rw [show f+(l - f)=l by omega]
theorem Aq3 {p:Pl} {d:Vo} (h:p.chk d=0):∀e∈d.evs,e.err=0:=(Ix (C6 h).2.2).1
theorem Aqk {z:Vo} (h:Dq z=0) (hr:¬z.rest):∀e∈z.evs,e.err=0:=fun e he=>(Wg (innE_zero.1 h).1 hr e he).1
theorem Amx {d z:Vo} {f n:Nat} (hd:∀e∈d.evs,e.err=0) (hz:∀e∈z.evs,e.err=0):∀e∈(A8 d f n z).evs,e.err=0:=by
 intro e he
 simp only [A8] at he
 rcases List.mem_append.1 he with he|he
 ·rcases List.mem_append.1 he with he|he
  ·exact hd e (List.mem_of_mem_take he)
  ·exact hz e he
 ·exact hd e (List.mem_of_mem_drop he)
theorem Us {x y:Ev} (h:x.err=0):(N3 x y).err=0:=by
 by_cases hk:x.kind=3
 ·have hn:=Ev.no_heads h (by omega)
  have:N3 x y=x:=by unfold N3;rw [hn];show x.reh []=x;rw [←hn];rfl
  rw [this];exact h
 ·exact Ev.err_reh h hk (fun e=>by rw [e];rfl) (fun e=>Ol (f:=Hl y) (fun _=>rfl) (fun _ _ k=>k) e)
theorem V2 {l:List Ev} (h:∀e∈l,e.err=0) (i:Int):∀e∈B9 l i,e.err=0:=by
 unfold B9
 split
 ·exact h
 ·split
  ·rename_i x y hx hy
   intro e he
   rcases List.mem_or_eq_of_mem_set he with k|k
   ·exact h e k
   ·rw [k];exact Us (h x (List.mem_of_getElem? hx))
  ·exact h
theorem Pv {l:List Ev} {i:Int} {m:Nat} {x y:Ev} (hm:i=m) (hx:l[m]? =some x) (hy:l[m+1]? =some y) (hl:∀e∈l,e.err=0):(l.map Ev.c).set m (Ev.c (Aaf x y))=(B9 l i).map Ev.c:=by
 rw [hm,R6 hx hy,List.map_set,Amn (hl y (List.mem_of_getElem? hy))]
theorem Ait (v:Vo) (p:Pl) (a b:Int) (z:Vo) (hF:v.fit) (hc:p.chk v=0) (hEz:Evs z.evs) (hFz:z.fit3):XC Tryz.prog 42 [.agg (Vo.c v), .agg (Pl.c p), .v (.int .i64 a), .v (.int .i64 b), .agg (Vo.c z)] (fun r=>r= .tup [.agg (Vo.c (Hh v p a b z).1),dI (Hh v p a b z).2]):=by
 obtain ⟨d,f,l,e,hreg,hok⟩:=Mb v p a b
 have hzt:=hFz.tups
 refine Ao Ahk Tryz.func42 R R lb<|zr<|XL.step R (At 5 (l:= [.d (.sl 13 (v.evs.map Ev.c)), .d (.sl 4 (v.tups.map Tp.c))]) R R (by kernel_rfl))<|XL.step R (At 6 (l:= [.d (dI p.m.count), .d (dI p.m.unit), .d (dI p.m.g0), .d (dI p.m.g1), .d (dI p.m.g2), .d (dI p.m.g3), .d (dI p.m.g4), .d (dI p.m.g5), .d (dI p.off), .d (dI p.len)]) R R (by kernel_rfl))<|?_
 refine XL.step R (At 9 (l:= [.d (.sl 13 (z.evs.map Ev.c)), .d (.sl 4 (z.tups.map Tp.c))]) R R (by kernel_rfl))<|XL.step R (A0 10 (l:= [.d (.v (.slice none 0 0)), .d (.v (.slice none 0 0))]) R A1 (by kernel_rfl))<|za R R<|znr<|zp (Ae (s':= .d (.agg (Vo.c v))) (Ac (Ad R R An R lb)) (by kernel_rfl))<|?_
 refine zp (Ae (s':= .d (.agg (Pl.c p))) (Ac (Ad R R Qk R lb)) (by kernel_rfl))<|zm R R<|zm R R<|XL.call1 R R (Aio hF hc hreg) R<|zm R R<|zp (A6 R R R)<|zp (A6 R R R)<|zp (A6 R R R)<|zp (A6 R R R)<|XL.step R (A0 12 (l:= [.d (.v (.slice none 0 0)), .d (.v (.slice none 0 0))]) R A1 (by kernel_rfl))<|?_
 refine XL.step R (Ag (l':= [.d (.sl 13 (d.evs.map Ev.c)), .d (.sl 4 (d.tups.map Tp.c))]) R R R R Bc R lb (by kernel_rfl))<|za R R<|za R R<|za R R<|zn<|zs<|zr<|zm R R<|zp (Be R R R)<|zn<|?_
 refine zd R (fun c37=> ?_) (fun c37=> ?_)
 refine zr<|zp (Ae (s':= .d (.agg [.v (.slice none 0 0), .v (.slice none 0 0)])) (Ac (A4 R Br A1 R)) (by kernel_rfl))<|zm R R<|XL.step R (Ag (l':= [.d (.v (.slice none 0 0)), .d (.v (.slice none 0 0))]) R R R R Bc R lb (by kernel_rfl))<|za R R<|zn<|zt<|?_
 exact Bh R (RV.sub (RV.cells R R R An lb R) (.agg (.cons (.nil 13) (.cons (.nil 4) (.nil))))) (RV.tmp R R) (r2v (Apo hreg c37))
 refine zi<|zs<|zs<|?_
 have hO:=hok (by omega)
 have hFd:=hO.fit hF
 obtain ⟨hsd,hdl⟩:=Ki (C6 hO.chk).2.2
 have hfl:=hO.fl
 have hll:=hO.ll
 have hab:=hO.rng
 have hpb:=(C6 hO.hc).2.1
 unfold Pl.bad at hpb
 have hdt:=hsd.tups
 refine Af (by kernel_rfl)<|zp (Ae (s':= .d (.agg (Vo.c z))) (Ac (Ad R R An R lb)) (by kernel_rfl))<|XL.call1 R R (Aj8 _ hEz (by omega)) R<|za R R<|znr<|zm R R<|zp (Be R R R)<|zn<|?_
 refine zd R (fun c43=> ?_) (fun c43=> ?_)
 refine zr<|zp (Ae (s':= .d (.agg [.v (.slice none 0 0), .v (.slice none 0 0)])) (Ac (A4 R Br A1 R)) (by kernel_rfl))<|zm R R<|XL.step R (Ag (l':= [.d (.v (.slice none 0 0)), .d (.v (.slice none 0 0))]) R R R R Bc R lb (by kernel_rfl))<|za R R<|zn<|zt<|?_
 exact Bh R (RV.sub (RV.cells R R R An lb R) (.agg (.cons (.nil 13) (.cons (.nil 4) (.nil))))) (RV.tmp R R) (r2v ((Jb hreg c37).trans (Apq c43)))
 refine zi<|zs<|zs<|?_
 obtain ⟨hp1,hp2,hp3,hp4⟩:=As3 (x:=z) (by omega)
 have hNx:=Sg z
 have hsx:=Xy (x:=z) hp3 (by omega)
 have hxt:=hsx.tups
 refine Af (by kernel_rfl)<|zp (Ae (s':= .d (.agg (Vo.c z))) (Ac (Ad R R An R lb)) (by kernel_rfl))<|XL.call1 R R (Abj z 0 hp3 hp4 (by omega)) R<|XL.call1 R R (Aim _ (by assumption)) R<|zm R R<|zm R R<|zp (C9 R R R (by omega) (by omega))<|zp (Be R R R)<|zn<|?_
 refine zd R (fun c52=> ?_) (fun c52=> ?_)
 refine zr<|zp (Ae (s':= .d (.agg [.v (.slice none 0 0), .v (.slice none 0 0)])) (Ac (A4 R Br A1 R)) (by kernel_rfl))<|XL.step R (Ag (l':= [.d (.v (.slice none 0 0)), .d (.v (.slice none 0 0))]) R R R R Bc R lb (by kernel_rfl))<|za R R<|zn<|zt<|?_
 exact Bh R (RV.sub (RV.cells R R R An lb R) (.agg (.cons (.nil 13) (.cons (.nil 4) (.nil))))) (RV.tmp R R) (r2v ((Jb hreg c37).trans (Apj hp1 hp2 (by omega) c52)))
 refine zi<|zs<|zr<|zm R R<|zm R R<|zp (A5 R R R)<|zn<|?_
 refine zd R (fun c56=> ?_) (fun c56=> ?_)
 refine zr<|zp (Ae (s':= .d (.agg (Vo.c v))) (Ac (Ad R R An R lb)) (by kernel_rfl))<|XL.step R (Ag (l':= [.d (.sl 13 (v.evs.map Ev.c)), .d (.sl 4 (v.tups.map Tp.c))]) R R R R Bc R lb (by kernel_rfl))<|za R R<|zn<|zt<|?_
 exact Bh R (RV.cells R R R An lb R) (RV.tmp R R) (r2v ((Jb hreg c37).trans (Api hp1 hp2 (by omega) c52 c56)))
 refine zi<|zr<|zp (Aa R R Ax)<|zp (Ab R R Bk R R)<|XL.len R R R Tryz.underlying22 fun hl60=>za R R<|zn<|zs<|?_
 have htk:(d.evs.take f).length=f:=by rw [List.length_take];omega
 refine Af (by kernel_rfl)<|XL.step R (Bj 61 R Tryz.underlying22 B4 Bw R R (by omega) (by omega))<|zp (Aa R R Ax)<|zp (Ab R R Bk R R)<|zm R R<|zp (Ee R R B5 Bd.no (Bd.at R) (Nat.zero_le _) (by omega))<|?_
 refine XL.step R (A7 R D3 (.own R) (Src.sl (by omega)) (by simp only [List.length_append,List.length_map,List.length_take,List.length_drop,List.length_nil];unfold maxLen;omega) (by simp only [List.length_append,List.length_map,List.length_take,List.length_drop,List.length_nil];omega))<|?_
 refine XL.rowq (i:=61) (l':=(d.evs.take (f:Nat)).map Ev.c) R (by rw [List.nil_append,List.drop_zero])<|zp (Ac (A4 R Br A1 R))<|XL.step R (A0 18 (l:= [.d (.v (.slice none 0 0)), .d (.v (.slice none 0 0))]) R A1 (by kernel_rfl))<|XL.step R (Ag (l':= [.own 61, .d (.v (.slice none 0 0))]) R R R R Bc R lb (by kernel_rfl))<|zn<|zs<|?_
 refine J1 4 9 [] (S.kill 61) 61 (Sj 61 (.row 60 13 ((d.evs.take (f:Nat)++z.evs).map Ev.c))) (by kernel_rfl) (by kernel_rfl) (by kernel_rfl) (by kernel_rfl) (by decide)<|ChMK.bf R (CStep.pure (Aa R R Ax)) (by conv=>lhs;whnf)<|?_
 refine ChMK.bf R (CStep.pure (Ab R R Bk R R)) (by conv=>lhs;whnf)<|?_
 refine ChMK.bf R (CStep.pure (Aa R R Ax)) (by conv=>lhs;whnf)<|?_
 refine ChMK.bf R (CStep.pure (Ab R R Bk R R)) (by conv=>lhs;whnf)<|?_
 refine ChMK.mu R (Og (l2:=(d.evs.take (f:Nat)++z.evs).map Ev.c) R D3 (.own R) (Src.sl (by omega)) (by simp only [List.length_append,List.length_map,List.length_take,List.length_drop,List.length_nil];unfold maxLen;omega) (by simp only [List.length_append,List.length_map,List.length_take,List.length_drop,List.length_nil];omega) (Xt))<|?_
 refine ChMK.fr R R (CStep.pure (Aa R R Ax)) (CStep.pure (Aa R R Ax)) (by exact rfl)<|ChMK.fr R R (CStep.pure (Ab R R Bk R R)) (CStep.pure (Ab R R Bk R R)) (by exact rfl)<|ChMK.fr R R (CStep.pure (Aw R (by conv=>lhs;whnf))) (CStep.pure (Aw R (by conv=>lhs;whnf))) (by exact rfl)<|?_
 refine ChMK.fr R R (CStep.pure (Ee R R B5 (Bd.at R) Bd.no (by omega) (Nat.le_refl _))) (CStep.pure (Ee R R B5 (Bd.at R) Bd.no (by omega) (Nat.le_refl _))) (by exact rfl)<|?_
 refine ChMK.nil ⟨⟨by kernel_rfl,by kernel_rfl,by kernel_rfl⟩, ?_⟩
 refine XL.step R (A7 R D3 (.own R) (Src.sl (by omega)) (by simp only [List.length_append,List.length_map,List.length_take,List.length_drop,List.length_nil];unfold maxLen;omega) (by simp only [List.length_append,List.length_map,List.length_take,List.length_drop,List.length_nil];omega))<|?_
 refine XL.rowq (i:=61) (l':=((A8 d f (l - f) z).evs).map Ev.c) R (by rw [Q2 hfl,List.take_length];simp only [List.map_append])<|zp (Aa R R Ax)<|XL.step R (Ag (l':= [.own 61, .d (.v (.slice none 0 0))]) R R R R Vy R lb (by kernel_rfl))<|zn<|zs<|zr<|za R R<|zn<|Ah<|Kx 902 18 1 102 4 (l':= [.own 61, .own 902]) R R (by decide) (by kernel_rfl)<|?_
 refine Ay (α:=Nat) (fun k=>k≤d.tups.length) (fun k=>mkF [(9, .ptr 9 0 0),(10, .ptr 10 0 0),(11, .d (dI 0)),(12, .ptr 12 0 0),(13, .d (dI (f:Nat))),(14, .d (dI (l:Nat))),(17, .d (dI z.evs.length)),(18, .ptr 18 0 0),(19, .d (dI k))]) (fun k=>mkH [(9, .box ((Vo.c z).map S.d)),(10, .box [.d (.v (.slice none 0 0)), .d (.v (.slice none 0 0))]),(12, .box ((Vo.c d).map S.d)),(18, .box [.own 61, .own 902]),(61, .row 60 13 (((A8 d f (l - f) z).evs).map Ev.c)),(902, .row 102 4 ((Ci (fun t=>decide (t.first<((f:Nat):Int))) 0 (d.tups.take k)).map Tp.c))]) (fun k=>d.tups.length - k) (0) (Nat.zero_le _) ?_ ?_ ?_
 exact fz ⟨sr,sr,sr,sr,sr,sr,sr,sr,sr,trivial⟩
 exact gz ⟨R,R,R,R,R,R,trivial⟩
 intro k hk0
 refine zs<|zr<|zm R R<|zp (Aa R R Bn)<|zp (Ab R R B1 R R)<|XL.len R R R Tryz.underlying23 fun hl82=>zp (As R R R)<|zn<|?_
 refine zd R (fun c83=> ?_) (fun c83=> ?_)
 have hk0a:k<d.tups.length:=by omega
 obtain ⟨x0,hx0⟩:=Au hk0a
 have hml:=Fp (fun t=>decide (t.first<((f:Nat):Int))) 0 (d.tups.take k)
 have htl:(d.tups.take k).length≤d.tups.length:=List.length_take_le' _ _
 refine zi<|zs<|Ah<|zr<|zp (Aa R R Bn)<|zp (Ab R R B1 R R)<|zm R R<|zp (Am R R R D9 hx0)<|zp (Ae (s':= .d (.agg (Tp.c x0))) (Av R R Cb lb) (by kernel_rfl))<|XL.step R (A0 20 (l:= [.d (dI 0), .d (dI 0), .d (dI 0), .d (dI 0)]) R Db (by kernel_rfl))<|?_
 refine XL.step R (Ag (l':= [.d (dI x0.first), .d (dI x0.count), .d (dI x0.actual), .d (dI x0.normal)]) R R R R Ej R lb (by kernel_rfl))<|znr<|zp (Aa R R Bv)<|zp (Ab R R Ai R R)<|zm R R<|zp (As R R R)<|zn<|?_
 refine zd R (fun c94=> ?_) (fun c94=> ?_)
 refine Af (by kernel_rfl)<|zp (Aa R R Bn)<|zp (Ab R R B1 R R)<|zp (Ae (s':= .d (.agg (Tp.c x0))) (Ac (Ad R R Cb R lb)) (by kernel_rfl))<|XL.step R (Bj 98 R Tryz.underlying23 Ej Db R R (by omega) (by omega))<|?_
 refine XL.step R (A7 R G4 (.own R) (Src.own R) (by simp only [List.length_append,List.length_map,List.length_cons,List.length_nil];unfold maxLen;omega) (by simp only [List.length_append,List.length_map,List.length_cons,List.length_nil];omega))<|zp (Aa R R Bn)<|XL.step R (Ag (l':= [.own 61, .own 902]) R R R R G9 R lb (by kernel_rfl))<|zn<|?_
 refine Af (by kernel_rfl)<|zm R R<|zp (Aj R R R (by omega) (by omega))<|za R R<|zn<|?_
 exact Ak (k+1) (by omega) (by omega) (fz ⟨sr,sr,sr,sr,sr,sr,sr,sr,sr,trivial⟩) (gz ⟨R,R,R,R,R,Ea (by rw [Tj];rfl) (O7 hx0 (decide_eq_true c94)),trivial⟩)
 refine zi<|Af (by kernel_rfl)<|zm R R<|zp (Aj R R R (by omega) (by omega))<|za R R<|zn<|?_
 exact Ak (k+1) (by omega) (by omega) (fz ⟨sr,sr,sr,sr,sr,sr,sr,sr,sr,trivial⟩) (gz ⟨R,R,R,R,R,Pw (Rd hx0 (fun h=>c94 (of_decide_eq_true h))).symm,trivial⟩)
 have hk0b:k=d.tups.length:=by omega
 have ht0:d.tups.take k=d.tups:=by rw [hk0b,List.take_length]
 have hl1:=Fp (fun t=>decide (t.first<((f:Nat):Int))) 0 d.tups
 refine Ap<|zs<|zr<|za R R<|zn<|Ah<|?_
 refine Ay (α:=Nat) (fun i=>i≤z.tups.length) (fun i=>mkF [(9, .ptr 9 0 0),(10, .ptr 10 0 0),(11, .d (dI 0)),(12, .ptr 12 0 0),(13, .d (dI (f:Nat))),(14, .d (dI (l:Nat))),(17, .d (dI z.evs.length)),(18, .ptr 18 0 0),(21, .d (dI i))]) (fun i=>mkH [(9, .box ((Vo.c z).map S.d)),(10, .box [.d (.v (.slice none 0 0)), .d (.v (.slice none 0 0))]),(12, .box ((Vo.c d).map S.d)),(18, .box [.own 61, .own 902]),(61, .row 60 13 (((A8 d f (l - f) z).evs).map Ev.c)),(902, .row 102 4 ((Ci (fun t=>decide (t.first<((f:Nat):Int))) 0 d.tups++Ci (fun _=>true) (f:Nat) (z.tups.take i)).map Tp.c))]) (fun i=>z.tups.length - i) (0) (Nat.zero_le _) ?_ ?_ ?_
 exact fz ⟨sr,sr,sr,sr,sr,sr,sr,sr,sr,trivial⟩
 exact gz ⟨R,R,R,R,R,by rw [ht0];exact Pw (by rw [List.take_zero,If,List.append_nil]),trivial⟩
 intro i hk2
 refine zs<|zr<|zm R R<|zp (Aa R R Bn)<|zp (Ab R R B1 R R)<|XL.len R R R Tryz.underlying23 fun hl104=>zp (As R R R)<|zn<|?_
 refine zd R (fun c105=> ?_) (fun c105=> ?_)
 have hk2a:i<z.tups.length:=by omega
 obtain ⟨x2,hx2⟩:=Au hk2a
 have hml2:=Fp (fun _=>true) (f:Nat) (z.tups.take i)
 have htl2:(z.tups.take i).length≤z.tups.length:=List.length_take_le' _ _
 have hb2:=hsx.bd x2 (List.mem_of_getElem? hx2)
 refine zi<|zs<|Ah<|zr<|zp (Aa R R Bn)<|zp (Ab R R B1 R R)<|zm R R<|zp (Am R R R D9 hx2)<|zp (Ae (s':= .d (.agg (Tp.c x2))) (Av R R Cb lb) (by kernel_rfl))<|XL.step R (A0 22 (l:= [.d (dI 0), .d (dI 0), .d (dI 0), .d (dI 0)]) R Db (by kernel_rfl))<|?_
 refine XL.step R (Ag (l':= [.d (dI x2.first), .d (dI x2.count), .d (dI x2.actual), .d (dI x2.normal)]) R R R R Ej R lb (by kernel_rfl))<|znr<|zp (Aa R R Bv)<|zp (Ab R R Ai R R)<|zm R R<|zp (Aj R R R (by omega) (by omega))<|zp (Aa R R Bv)<|?_
 refine XL.step R (Ag (l':= [.d (dI (x2.first+(f:Nat))), .d (dI x2.count), .d (dI x2.actual), .d (dI x2.normal)]) R R R R Cs R lb (by kernel_rfl))<|zng<|zp (Aa R R Bn)<|zp (Ab R R B1 R R)<|zp (Ae (s':= .d (.agg [dI (x2.first+(f:Nat)),dI x2.count,dI x2.actual,dI x2.normal])) (Ac (Ad R R Cb R lb)) (by kernel_rfl))<|?_
 refine XL.step R (Bj 121 R Tryz.underlying23 Ej Db R R (by omega) (by omega))<|XL.step R (A7 R G4 (.own R) (Src.own R) (by simp only [List.length_append,List.length_map,List.length_cons,List.length_nil];unfold maxLen;omega) (by simp only [List.length_append,List.length_map,List.length_cons,List.length_nil];omega))<|zp (Aa R R Bn)<|?_
 refine XL.step R (Ag (l':= [.own 61, .own 902]) R R R R G9 R lb (by kernel_rfl))<|zn<|Af (by kernel_rfl)<|zm R R<|zp (Aj R R R (by omega) (by omega))<|za R R<|zn<|?_
 exact Ak (i+1) (by omega) (by omega) (fz ⟨sr,sr,sr,sr,sr,sr,sr,sr,sr,trivial⟩) (gz ⟨R,R,R,R,R,Ea R (by rw [O7 hx2 rfl,List.append_assoc]),trivial⟩)
 have hk2b:i=z.tups.length:=by omega
 have ht2:z.tups.take i=z.tups:=by rw [hk2b,List.take_length]
 have hl2:=Fp (fun _=>true) (f:Nat) z.tups
 refine Ap<|zs<|zr<|za R R<|zn<|Ah<|?_
 refine Ay (α:=Nat) (fun j=>j≤d.tups.length) (fun j=>mkF [(10, .ptr 10 0 0),(11, .d (dI 0)),(12, .ptr 12 0 0),(13, .d (dI (f:Nat))),(14, .d (dI (l:Nat))),(17, .d (dI z.evs.length)),(18, .ptr 18 0 0),(23, .d (dI j))]) (fun j=>mkH [(10, .box [.d (.v (.slice none 0 0)), .d (.v (.slice none 0 0))]),(12, .box ((Vo.c d).map S.d)),(18, .box [.own 61, .own 902]),(61, .row 60 13 (((A8 d f (l - f) z).evs).map Ev.c)),(902, .row 102 4 ((Ci (fun t=>decide (t.first<((f:Nat):Int))) 0 d.tups++Ci (fun _=>true) (f:Nat) z.tups++Ci (fun t=>decide (((f:Nat):Int)+((l - f:Nat):Int)≤t.first)) ((z.evs.length:Int) - ((l - f:Nat):Int)) (d.tups.take j)).map Tp.c))]) (fun j=>d.tups.length - j) (0) (Nat.zero_le _) ?_ ?_ ?_
 exact fz ⟨sr,sr,sr,sr,sr,sr,sr,sr,trivial⟩
 exact gz ⟨R,R,R,R,by rw [ht2];exact Pw (by rw [List.take_zero,If,List.append_nil]),trivial⟩
 intro j hk4
 refine zs<|zr<|zm R R<|zp (Aa R R Bn)<|zp (Ab R R B1 R R)<|XL.len R R R Tryz.underlying23 fun hl127=>zp (As R R R)<|zn<|?_
 refine zd R (fun c128=> ?_) (fun c128=> ?_)
 have hk4a:j<d.tups.length:=by omega
 obtain ⟨x4,hx4⟩:=Au hk4a
 have hml4:=Fp (fun t=>decide (((f:Nat):Int)+((l - f:Nat):Int)≤t.first)) ((z.evs.length:Int) - ((l - f:Nat):Int)) (d.tups.take j)
 have htl4:(d.tups.take j).length≤d.tups.length:=List.length_take_le' _ _
 have hb4:=hsd.bd x4 (List.mem_of_getElem? hx4)
 refine zi<|zs<|Ah<|zr<|zp (Aa R R Bn)<|zp (Ab R R B1 R R)<|zm R R<|zp (Am R R R D9 hx4)<|zp (Ae (s':= .d (.agg (Tp.c x4))) (Av R R Cb lb) (by kernel_rfl))<|XL.step R (A0 24 (l:= [.d (dI 0), .d (dI 0), .d (dI 0), .d (dI 0)]) R Db (by kernel_rfl))<|?_
 refine XL.step R (Ag (l':= [.d (dI x4.first), .d (dI x4.count), .d (dI x4.actual), .d (dI x4.normal)]) R R R R Ej R lb (by kernel_rfl))<|znr<|zp (Aa R R Bv)<|zp (Ab R R Ai R R)<|zm R R<|zp (Dr R R R)<|zn<|?_
 refine zd R (fun c139=> ?_) (fun c139=> ?_)
 refine zr<|zp (Aa R R Bv)<|zp (Ab R R Ai R R)<|zm R R<|zp (C9 R R R (by omega) (by omega))<|zm R R<|zp (Aj R R R (by omega) (by omega))<|zm R R<|zp (Aj R R R (by omega) (by omega))<|zp (Aa R R Bv)<|?_
 refine XL.step R (Ag (l':= [.d (dI (((x4.first - (l:Nat))+(f:Nat))+z.evs.length)), .d (dI x4.count), .d (dI x4.actual), .d (dI x4.normal)]) R R R R Cs R lb (by kernel_rfl))<|zng<|zp (Aa R R Bn)<|zp (Ab R R B1 R R)<|?_
 refine zp (Ae (s':= .d (.agg [dI (((x4.first - (l:Nat))+(f:Nat))+z.evs.length),dI x4.count,dI x4.actual,dI x4.normal])) (Ac (Ad R R Cb R lb)) (by kernel_rfl))<|XL.step R (Bj 152 R Tryz.underlying23 Ej Db R R (by omega) (by omega))<|?_
 refine XL.step R (A7 R G4 (.own R) (Src.own R) (by simp only [List.length_append,List.length_map,List.length_cons,List.length_nil];unfold maxLen;omega) (by simp only [List.length_append,List.length_map,List.length_cons,List.length_nil];omega))<|zp (Aa R R Bn)<|XL.step R (Ag (l':= [.own 61, .own 902]) R R R R G9 R lb (by kernel_rfl))<|zn<|?_
 refine Af (by kernel_rfl)<|zm R R<|zp (Aj R R R (by omega) (by omega))<|za R R<|zn<|?_
 exact Ak (j+1) (by omega) (by omega) (fz ⟨sr,sr,sr,sr,sr,sr,sr,sr,trivial⟩) (gz ⟨R,R,R,R,Ea (Asb (b:=((z.evs.length:Int) - ((l - f:Nat):Int))) (by omega)) (by rw [O7 hx4 (decide_eq_true (by omega)), ←List.append_assoc]),trivial⟩)
 refine zi<|Af (by kernel_rfl)<|zm R R<|zp (Aj R R R (by omega) (by omega))<|za R R<|zn<|?_
 exact Ak (j+1) (by omega) (by omega) (fz ⟨sr,sr,sr,sr,sr,sr,sr,sr,trivial⟩) (gz ⟨R,R,R,R,Pw (by rw [Rd hx4 (fun h=>c139 (by have:=of_decide_eq_true h;omega))]),trivial⟩)
 have hk4b:j=d.tups.length:=by omega
 have ht4:d.tups.take j=d.tups:=by rw [hk4b,List.take_length]
 have hl4:=Fp (fun t=>decide (((f:Nat):Int)+((l - f:Nat):Int)≤t.first)) ((z.evs.length:Int) - ((l - f:Nat):Int)) d.tups
 refine S4 (i:=902) (l':=(A8 d f (l - f) z).tups.map Tp.c) R (by rw [ht4];rfl)<|Ap<|zs<|zs<|?_
 have hz1:=Am7 hp3 c52 c56
 have hrl:(A8 d f (l - f) z).evs.length=f+z.evs.length+(d.evs.length - l):=by rw [Q2 hfl,List.length_append,List.length_append,List.length_drop];omega
 have her:=Amx (f:=f) (n:=l - f) (Aq3 hO.chk) (Aqk hp3 hp4)
 have hfe:=N9 (f:=f) (n:=l - f) hFd.ev hFz.ev
 refine Af (by kernel_rfl)<|zp (Aa R R Ax)<|zp (Ab R R Bk R R)<|zp (Cg R R R Tryz.underlying22)<|zp (Bb R R R)<|zm R R<|?_
 refine XL.dec 159 R (fun g159=> ?_) (fun g159=> ?_)
 refine zk 4 R<|zq R R R<|zn<|Aq (by kernel_rfl) R<|zr<|zp (Ae (s':= .d (.agg [.v (.slice none 0 0), .v (.slice none 0 0)])) (Ac (A4 R Br A1 R)) (by kernel_rfl))<|XL.step R (Ag (l':= [.d (.v (.slice none 0 0)), .d (.v (.slice none 0 0))]) R R R R Bc R lb (by kernel_rfl))<|za R R<|zn<|zt<|?_
 exact Bh R (RV.sub (RV.cells R R R An lb R) (.agg (.cons (.nil 13) (.cons (.nil 4) (.nil))))) (RV.tmp R R) (r2v ((Jb hreg c37).trans (Abl hp1 hp2 (by omega) c52 c56 (by omega))))
 refine zp (Aa R R Bn)<|zp (Ab R R B1 R R)<|zp (Cg R R R Tryz.underlying23)<|zp (Bb R R R)<|zq R R R<|zn<|?_
 refine zd R (fun c164=> ?_) (fun c164=> ?_)
 refine zr<|zp (Ae (s':= .d (.agg [.v (.slice none 0 0), .v (.slice none 0 0)])) (Ac (A4 R Br A1 R)) (by kernel_rfl))<|XL.step R (Ag (l':= [.d (.v (.slice none 0 0)), .d (.v (.slice none 0 0))]) R R R R Bc R lb (by kernel_rfl))<|za R R<|zn<|zt<|?_
 exact Bh R (RV.sub (RV.cells R R R An lb R) (.agg (.cons (.nil 13) (.cons (.nil 4) (.nil))))) (RV.tmp R R) (r2v ((Jb hreg c37).trans (Abl hp1 hp2 (by omega) c52 c56 (by omega))))
 refine zi<|zs<|zr<|zm R R<|zp (Bb R R R)<|zn<|?_
 refine zd R (fun c167=> ?_) (fun c167=> ?_)
 obtain ⟨m,hm⟩:∃m,f=m+1:=⟨f - 1,by omega⟩
 obtain ⟨x,hx⟩:∃x,((A8 d f (l - f) z).evs)[m]? =some x:=Au (by omega)
 obtain ⟨y,hy⟩:∃y,((A8 d f (l - f) z).evs)[m+1]? =some y:=Au (by omega)
 have hxh:=(hfe x (List.mem_of_getElem? hx)).1
 refine Ce 16 [] (by kernel_rfl) (by kernel_rfl) (by kernel_rfl) (by kernel_rfl) (by decide)<|yp (Aa R R Ax)<|yp (Ab R R Bk R R)<|ym R R<|yp (C9 R R R (by omega) (by omega))<|yp (Aa R R Ax)<|yp (Ab R R Bk R R)<|ym R R<|yp (C9 R R R (by omega) (by omega))<|yp (Cu R R R (show _=((m:Nat):Int) by omega) rfl B5 (by omega))<|?_
 refine yp (Ae (s':= .d (.agg (Ev.c x))) (E3 R R A3 R (Cf (hx)) lb) (by kernel_rfl))<|yp (Aa R R Ax)<|yp (Ab R R Bk R R)<|ym R R<|yp (Cu R R R (show _=((m+1:Nat):Int) by omega) rfl B5 (by omega))<|yp (Ae (s':= .d (.agg (Ev.c y))) (E3 R R A3 R (Cf (hy)) lb) (by kernel_rfl))<|?_
 refine ChK.cons R (CStep.call R (Xx x y hxh) R)<|?_
 refine ChK.nil ⟨by kernel_rfl, ?_⟩
 refine zp (Cu R R R (show _=((m:Nat):Int) by omega) rfl B5 (by omega))<|XL.step R (Dk R R R (Cf hx) R R B4 R lb)<|XL.rowq (i:=61) (l':=(B9 ((A8 d f (l - f) z).evs) (((f:Nat) - 1))).map Ev.c) R (Pv (by omega) hx hy her)<|zn<|zs<|zs<|?_
 have hsl:=Lm ((A8 d f (l - f) z).evs) ((f:Nat) - 1)
 have hes:=V2 her ((f:Nat) - 1)
 have hfs:=Ln hfe ((f:Nat) - 1)
 refine Af (by kernel_rfl)<|zm R R<|zm R R<|zp (Aj R R R (by omega) (by omega))<|za R R<|znr<|zm R R<|zp (Aa R R Ax)<|zp (Ab R R Bk R R)<|zp (Cg R R R Tryz.underlying22)<|zp (As R R R)<|zn<|?_
 refine zd R (fun c192=> ?_) (fun c192=> ?_)
 obtain ⟨m2,hm2⟩:∃m2,f+z.evs.length=m2+1:=⟨f+z.evs.length - 1,by omega⟩
 obtain ⟨x2,hx2⟩:∃x,(B9 ((A8 d f (l - f) z).evs) (((f:Nat) - 1)))[m2]? =some x:=Au (by omega)
 obtain ⟨y2,hy2⟩:∃y,(B9 ((A8 d f (l - f) z).evs) (((f:Nat) - 1)))[m2+1]? =some y:=Au (by omega)
 have hxh2:=(hfs x2 (List.mem_of_getElem? hx2)).1
 refine Ce 16 [] (by kernel_rfl) (by kernel_rfl) (by kernel_rfl) (by kernel_rfl) (by decide)<|yp (Aa R R Ax)<|yp (Ab R R Bk R R)<|ym R R<|yp (C9 R R R (by omega) (by omega))<|yp (Aa R R Ax)<|yp (Ab R R Bk R R)<|ym R R<|yp (C9 R R R (by omega) (by omega))<|yp (Cu R R R (show _=((m2:Nat):Int) by omega) rfl B5 (by omega))<|?_
 refine yp (Ae (s':= .d (.agg (Ev.c x2))) (E3 R R A3 R (Cf (hx2)) lb) (by kernel_rfl))<|yp (Aa R R Ax)<|yp (Ab R R Bk R R)<|ym R R<|yp (Cu R R R (show _=((m2+1:Nat):Int) by omega) rfl B5 (by omega))<|yp (Ae (s':= .d (.agg (Ev.c y2))) (E3 R R A3 R (Cf (hy2)) lb) (by kernel_rfl))<|?_
 refine ChK.cons R (CStep.call R (Xx x2 y2 hxh2) R)<|?_
 refine ChK.nil ⟨by kernel_rfl, ?_⟩
 refine zp (Cu R R R (show _=((m2:Nat):Int) by omega) rfl B5 (by omega))<|XL.step R (Dk R R R (Cf hx2) R R B4 R lb)<|XL.rowq (i:=61) (l':=(B9 (B9 ((A8 d f (l - f) z).evs) (((f:Nat) - 1))) ((f:Nat)+z.evs.length - 1)).map Ev.c) R (Pv (by omega) hx2 hy2 hes)<|znr<|zp (Ac (Ad R R An R lb))<|?_
 refine XL.step R (Ag (l':= [.own 61, .own 902]) R R R R Bc R lb (by kernel_rfl))<|za R R<|zn<|zt<|Bg (i:=61) R<|Bg (i:=902) R<|?_
 exact Bh R (RV.cells R R R An lb R) (RV.tmp R R) (r2v ((Jb hreg c37).trans (Xo hp1 hp2 (by omega) c52 c56 (by omega))))
 refine S4 (i:=61) (l':=(B9 (B9 ((A8 d f (l - f) z).evs) (((f:Nat) - 1))) ((f:Nat)+z.evs.length - 1)).map Ev.c) R (by rw [J6 (i:=((f:Nat)+z.evs.length - 1)) (by omega)])<|zi<|zr<|zp (Ac (Ad R R An R lb))<|XL.step R (Ag (l':= [.own 61, .own 902]) R R R R Bc R lb (by kernel_rfl))<|za R R<|zn<|zt<|Bg (i:=61) R<|?_
 refine Bg (i:=902) R<|?_
 exact Bh R (RV.cells R R R An lb R) (RV.tmp R R) (r2v ((Jb hreg c37).trans (Xo hp1 hp2 (by omega) c52 c56 (by omega))))
 refine S4 (i:=61) (l':=(B9 ((A8 d f (l - f) z).evs) (((f:Nat) - 1))).map Ev.c) R (by rw [J6 (i:=((f:Nat) - 1)) (by omega)])<|zi<|zs<|zs<|?_
 have hsl:=Lm ((A8 d f (l - f) z).evs) ((f:Nat) - 1)
 have hes:=V2 her ((f:Nat) - 1)
 have hfs:=Ln hfe ((f:Nat) - 1)
 refine Af (by kernel_rfl)<|zm R R<|zm R R<|zp (Aj R R R (by omega) (by omega))<|za R R<|znr<|zm R R<|zp (Aa R R Ax)<|zp (Ab R R Bk R R)<|zp (Cg R R R Tryz.underlying22)<|zp (As R R R)<|zn<|?_
 refine zd R (fun c192=> ?_) (fun c192=> ?_)
 obtain ⟨m2,hm2⟩:∃m2,f+z.evs.length=m2+1:=⟨f+z.evs.length - 1,by omega⟩
 obtain ⟨x2,hx2⟩:∃x,(B9 ((A8 d f (l - f) z).evs) (((f:Nat) - 1)))[m2]? =some x:=Au (by omega)
 obtain ⟨y2,hy2⟩:∃y,(B9 ((A8 d f (l - f) z).evs) (((f:Nat) - 1)))[m2+1]? =some y:=Au (by omega)
 have hxh2:=(hfs x2 (List.mem_of_getElem? hx2)).1
 refine Ce 16 [] (by kernel_rfl) (by kernel_rfl) (by kernel_rfl) (by kernel_rfl) (by decide)<|yp (Aa R R Ax)<|yp (Ab R R Bk R R)<|ym R R<|yp (C9 R R R (by omega) (by omega))<|yp (Aa R R Ax)<|yp (Ab R R Bk R R)<|ym R R<|yp (C9 R R R (by omega) (by omega))<|yp (Cu R R R (show _=((m2:Nat):Int) by omega) rfl B5 (by omega))<|?_
 refine yp (Ae (s':= .d (.agg (Ev.c x2))) (E3 R R A3 R (Cf (hx2)) lb) (by kernel_rfl))<|yp (Aa R R Ax)<|yp (Ab R R Bk R R)<|ym R R<|yp (Cu R R R (show _=((m2+1:Nat):Int) by omega) rfl B5 (by omega))<|yp (Ae (s':= .d (.agg (Ev.c y2))) (E3 R R A3 R (Cf (hy2)) lb) (by kernel_rfl))<|?_
 refine ChK.cons R (CStep.call R (Xx x2 y2 hxh2) R)<|?_
 refine ChK.nil ⟨by kernel_rfl, ?_⟩
 refine zp (Cu R R R (show _=((m2:Nat):Int) by omega) rfl B5 (by omega))<|XL.step R (Dk R R R (Cf hx2) R R B4 R lb)<|XL.rowq (i:=61) (l':=(B9 (B9 ((A8 d f (l - f) z).evs) (((f:Nat) - 1))) ((f:Nat)+z.evs.length - 1)).map Ev.c) R (Pv (by omega) hx2 hy2 hes)<|znr<|zp (Ac (Ad R R An R lb))<|?_
 refine XL.step R (Ag (l':= [.own 61, .own 902]) R R R R Bc R lb (by kernel_rfl))<|za R R<|zn<|zt<|Bg (i:=61) R<|Bg (i:=902) R<|?_
 exact Bh R (RV.cells R R R An lb R) (RV.tmp R R) (r2v ((Jb hreg c37).trans (Xo hp1 hp2 (by omega) c52 c56 (by omega))))
 refine S4 (i:=61) (l':=(B9 (B9 ((A8 d f (l - f) z).evs) (((f:Nat) - 1))) ((f:Nat)+z.evs.length - 1)).map Ev.c) R (by rw [J6 (i:=((f:Nat)+z.evs.length - 1)) (by omega)])<|zi<|zr<|zp (Ac (Ad R R An R lb))<|XL.step R (Ag (l':= [.own 61, .own 902]) R R R R Bc R lb (by kernel_rfl))<|za R R<|zn<|zt<|Bg (i:=61) R<|?_
 refine Bg (i:=902) R<|?_
 exact Bh R (RV.cells R R R An lb R) (RV.tmp R R) (r2v ((Jb hreg c37).trans (Xo hp1 hp2 (by omega) c52 c56 (by omega))))
end Go.Proofs.YtcihalbakenleaaGreat
namespace Go.Proofs.YtcihalbakenleaaGreat
theorem Av6 {v:Vo} {p:Pl} {t:Int} (hc:p.chk v=0) (h:(Al v p t).2=0):((atE v p.len t≠0∨(atV v p.len t).2=t)∧Al v p t=(v,0))∨
  ∃(k:Nat) (a w:Int) (x:Ev),v.evs[k]? =some x∧(ckL v p.len)[k]? =some w∧a=tot ((ckL v p.len).take k)∧(∀s∈v.tups,¬s.has k)∧p.m.splitE (p.off+a) (p.off+t)=0∧p.m.splitE (p.off+t) (p.off+(a+w))=0∧
   (A8 v k 1 ⟨C7 p t a w x, []⟩).evs.length≤128∧t<a+w∧Al v p t=(A8 v k 1 ⟨C7 p t a w x, []⟩,0):=by
 obtain ⟨k,a,hat,ha0,ha1,hak⟩:=Qi v p.len t
 obtain ⟨hme,hpb,hck⟩:=C6 hc
 obtain ⟨ws,ls,hT⟩:=Pq hck
 by_cases c:atE v p.len t≠0∨a=t
 ·left
  exact ⟨by rw [hat];exact c,M5 hat c⟩
 ·right
  have he0:atE v p.len t=0:=by omega
  obtain ⟨hk,hak2⟩:=hak he0
  have hcl:=Ge hck
  obtain ⟨w,hw⟩:∃w,(ckL v p.len)[k]? =some w:=Au hk
  obtain ⟨x,hx⟩:∃x,v.evs[k]? =some x:=Au (by omega)
  have hd:=Ft hat c hx hw
  unfold K9 at hd
  split at hd
  ·rw [hd] at h;exact absurd h (by decide)
  ·rename_i c1
   split at hd
   ·rename_i c2;rw [hd] at h;exact absurd h c2
   ·rename_i c2
    split at hd
    ·rename_i c3;rw [hd] at h;exact absurd h c3
    ·rename_i c3
     split at hd
     ·rw [hd] at h;exact absurd h (by decide)
     ·rename_i c4
      rw [Ly hT] at c1
      have hrg:=Vg he0
      have hat2:=hat
      rw [Alu he0] at hat2
      obtain ⟨w2,hw2,_,htw⟩:=Aol hck (by omega) hrg.2.1 hrg.2.2 hat2
      rw [hw] at hw2;cases hw2
      exact ⟨k,a,w,x,hx,hw,hak2,Pg (by omega),by omega,by omega,by omega,htw.1,hd⟩
def Ons (ls:List Int) (t:Int):Prop:=∃k,k≤ls.length∧tot (ls.take k)=t
theorem Ap2 {v:Vo} {p:Pl} {t s:Int} (hc:p.chk v=0) (h:(Al v p t).2=0) (ho:Ons (ckL v p.len) s):Ons (ckL (Al v p t).1 p.len) s:=by
 obtain ⟨hme,hpb,hck⟩:=C6 hc
 rcases Av6 hc h with ⟨_,e⟩|⟨k,a,w,x,hk,hw,ha,hd,h1,h2,hl,_,e⟩
 ·rw [e];exact ho
 ·rw [e]
  obtain ⟨_,e2,_⟩:=Acv hck hk hw hd h1 h2 hl
  show Ons (ckL (A8 v k 1 ⟨C7 p t a w x, []⟩) p.len) s
  rw [e2]
  have hlenN:(C7 p t a w x).length≤128:=by
   have:(A8 v k 1 ⟨C7 p t a w x, []⟩).evs.length=v.evs.length - 1+(C7 p t a w x).length:=Uy (by have:=(List.getElem?_eq_some_iff.1 hk).1;omega)
   omega
  obtain ⟨_,hs⟩:=X7 ((Ix hck).1 x (List.mem_of_getElem? hk)) h1 h2 hlenN
  have hkl:=(List.getElem?_eq_some_iff.1 hw).1
  obtain ⟨j,hj,hjt⟩:=ho
  by_cases c:j≤k
  ·refine ⟨j,by rw [List.length_append,List.length_append,List.length_take];omega, ?_⟩
   rw [List.append_assoc,List.take_append_of_le_length (by rw [List.length_take];omega),List.take_take,Nat.min_eq_left c];exact hjt
  ·have hq:((ckL v p.len).take k++wrS (C7 p t a w x)).length=k+(C7 p t a w x).length:=by rw [List.length_append,List.length_take,Hv];omega
   refine ⟨k+(C7 p t a w x).length+(j - (k+1)),by rw [List.length_append,hq,List.length_drop];omega, ?_⟩
   rw [List.take_append,hq,show k+(C7 p t a w x).length+(j - (k+1)) - (k+(C7 p t a w x).length)=j - (k+1) by omega,List.take_of_length_le (by omega),G8,G8,hs, ←hjt]
   have e3:tot ((ckL v p.len).take j)=tot ((ckL v p.len).take (k+1))+tot (((ckL v p.len).take j).drop (k+1)):=P5 _ _ _ (by omega)
   rw [e3,Bp hw,Hb,List.drop_take]
theorem Ai0 {v:Vo} {p:Pl} {t:Int} (hc:p.chk v=0) (hn:v.evs≠ []) (h0:0≤t) (h1:t≤p.len) (h:(Al v p t).2=0):Ons (ckL (Al v p t).1 p.len) t:=by
 obtain ⟨hme,hpb,hck⟩:=C6 hc
 have hcl:=Ge hck
 rcases Av6 hc h with ⟨c,e⟩|⟨k,a,w,x,hk,hw,ha,hd,q1,q2,hl,_,e⟩
 ·rw [e]
  show Ons (ckL v p.len) t
  by_cases ht:t=p.len
  ·exact ⟨(ckL v p.len).length,Nat.le_refl _,by rw [List.take_length,Sw hck hn,ht]⟩
  ·obtain ⟨_,_,_,hA4⟩:=Xe v p.len t
   have he:=hA4 hck (fun k=>hn (List.eq_nil_of_length_eq_zero k)) (by omega)
   obtain ⟨k,a,hat,_,_,hak⟩:=Qi v p.len t
   obtain ⟨k1,k2⟩:=hak he
   rw [hat] at c
   exact ⟨k,by omega,by rw [←k2];exact c.resolve_left (fun k=>k he)⟩
 ·rw [e]
  obtain ⟨_,e2,_⟩:=Acv hck hk hw hd q1 q2 hl
  show Ons (ckL (A8 v k 1 ⟨C7 p t a w x, []⟩) p.len) t
  rw [e2]
  have hkl:=(List.getElem?_eq_some_iff.1 hw).1
  have hxe:=(Ix hck).1 x (List.mem_of_getElem? hk)
  obtain ⟨u1,u2⟩:=Ev.err_unrest hxe
  obtain ⟨r1,r2⟩:=Ox q1
  obtain ⟨n1,n2⟩:=O6 (Ev.err_tied u1 u2) (show x.unrest.tiedE.kind≠3 from u2) r2 false
  have hN:wrS (C7 p t a w x)=wrS (Bs x.unrest.tiedE (p.m.split (p.off+a) (p.off+t)) false)++wrS (Bs x.unrest (p.m.split (p.off+t) (p.off+(a+w))) true):=P4 _ _
  have hq:((ckL v p.len).take k++wrS (Bs x.unrest.tiedE (p.m.split (p.off+a) (p.off+t)) false)).length=k+(p.m.split (p.off+a) (p.off+t)).length:=by rw [List.length_append,List.length_take,Hv,Cn];omega
  refine ⟨k+(p.m.split (p.off+a) (p.off+t)).length,by rw [List.length_append,List.length_append,hN,List.length_append,Hv,Cn,List.length_take];omega, ?_⟩
  rw [hN, ←List.append_assoc,List.append_assoc ((ckL v p.len).take k++_), ←hq,List.take_left,G8,n2,r1,ha];omega
theorem Zq {ls:List Int} (hp:∀x∈ls,0<x) {t:Int} (h:Ons ls t):tot (ls.take (Bz (Bl ls) t))=t:=by
 obtain ⟨k,hk,ht⟩:=h
 have hol:=Jd ls
 have e:Bz (Bl ls) t=k:=by
  refine Nat.le_antisymm ?_ ?_
  ·by_cases c:k=ls.length
   ·have:=I4 (Bl ls) t;omega
   ·have h1:=Ane (l:=ls) (k:=k) (by omega)
    have:=(Jm hp h1 (a:=t)).2
    rw [←Nat.not_lt];intro hlt
    have:=this hlt
    omega
  ·rcases Nat.eq_zero_or_pos k with c|c
   ·omega
   ·have h1:=Ane (l:=ls) (k:=k - 1) (by omega)
    have h2:tot (ls.take (k - 1))<t:=by
     obtain ⟨w,hw⟩:∃w,ls[k - 1]? =some w:=Au (by omega)
     have:=hp w (List.mem_of_getElem? hw)
     rw [←ht,show ls.take k=ls.take (k - 1+1) by rw [show k - 1+1=k by omega],Bp hw,Hb];omega
    have:=(Jm hp h1 (a:=t)).1 h2
    omega
 rw [e,ht]
structure RegT (p:Pl) (a b:Int) (d:Vo) (f l:Nat):Prop where
 ta:tot ((ckL d p.len).take f)=a
 tb:tot ((ckL d p.len).take l)=b
theorem RegOk.tot {v:Vo} {p:Pl} {a b:Int} {d:Vo} {f l:Nat} (h:RegOk v p a b d f l):RegT p a b d f l:=by
 have hp:=Lk (C6 h.chk).2.2
 have hr:=h.rng
 have o1:=Ai0 h.hc h.ne (t:=a) (by omega) (by omega) h.e1
 have o2:=Ap2 h.c1 h.e2 o1
 have o3:=Ai0 h.c1 h.n1 (t:=b) (by omega) (by omega) h.e2
 rw [←h.d2] at o2 o3
 exact ⟨by rw [h.fe];exact Zq hp o2,by rw [h.le];exact Zq hp o3⟩
theorem RegOk.flt {v:Vo} {p:Pl} {a b:Int} {d:Vo} {f l:Nat} (h:RegOk v p a b d f l) (hab:a<b):f<l:=by
 have ht:=h.tot
 have h1:=ht.ta
 have h2:=ht.tb
 have h3:=h.fl
 by_cases c:f=l
 ·subst c;omega
 ·omega
theorem RegOk.free {v:Vo} {p:Pl} {a b:Int} {d:Vo} {f l:Nat} (h:RegOk v p a b d f l) (hab:a<b):Rv d.tups f∧Rv d.tups l:=by
 have hf:=h.flt hab
 constructor
 ·intro t ht
  have:=h.no t ht
  unfold Du at this
  unfold Tp.e
  omega
 ·intro t ht
  have:=h.no t ht
  unfold Du at this
  unfold Tp.e
  omega
theorem set_same {α:Type} {l:List α} {k:Nat} {x:α} (h:l[k]? =some x):l.set k x=l:=List.ext_getElem? fun j=>by
 by_cases e:k=j
 ·subst e;rw [List.getElem?_set_self (List.getElem?_eq_some_iff.1 h).1,h]
 ·rw [List.getElem?_set_ne e]
theorem Pu {l:List Ev} (h:∀e∈l,e.err=0∧e.kind≠3) (i:Int):∀e∈B9 l i,e.err=0∧e.kind≠3:=by
 unfold B9
 split
 ·exact h
 ·split
  ·rename_i x y hx hy
   intro e he
   rcases List.mem_or_eq_of_mem_set he with k|k
   ·exact h e k
   ·rw [k];exact ⟨Us (h x (List.mem_of_getElem? hx)).1,(h x (List.mem_of_getElem? hx)).2⟩
  ·exact h
theorem Vj {l:List Ev} (h:∀e∈l,e.err=0∧e.kind≠3) (i:Int):wrS (B9 l i)=wrS l:=by
 unfold B9
 split
 ·rfl
 ·split
  ·rename_i x y hx hy
   show (l.set _ _).map Ev.len=l.map Ev.len
   rw [List.map_set]
   obtain ⟨q1,q2⟩:=h x (List.mem_of_getElem? hx)
   have e:(N3 x y).len=x.len:=by
    have h2:=Us (y:=y) q1
    unfold Ev.len
    rw [if_neg (show ¬((N3 x y).err≠0∨(N3 x y).kind=3) by rw [h2];exact fun k=>k.elim (fun k=>k rfl) q2),if_neg (by omega)];rfl
   exact set_same (by rw [List.getElem?_map,hx,e];rfl)
  ·rfl
theorem Auu {v:Vo} {p:Pl} {a b:Int} {d z:Vo} {f l:Nat} (h:RegOk v p a b d f l) (hab:a<b) (h1:Dq z=0) (h2:¬z.rest) (h3:tot (D7 z)=b - a) (h4:(A8 d f (l - f) z).evs.length≤128) (h5:(A8 d f (l - f) z).tups.length≤16):
  VL (A8 d f (l - f) z) ((ckL d p.len).take f++D7 z++(ckL d p.len).drop l)∧tot ((ckL d p.len).take f++D7 z++(ckL d p.len).drop l)=p.len:=by
 obtain ⟨hme,hpb,hck⟩:=C6 h.chk
 have hf:=h.flt hab
 have ht:=h.tot
 have hz:=(Xz h2).1 ⟨h1,rfl⟩
 have hll:=h.ll
 have hcl:=Ge hck
 have htot:tot ((ckL d p.len).take f++D7 z++(ckL d p.len).drop l)=p.len:=by
  have e:=Sw hck h.dne
  have e2:tot (ckL d p.len)=tot ((ckL d p.len).take l)+tot ((ckL d p.len).drop l):=by rw [←G8,List.take_append_drop]
  have:=ht.ta
  have:=ht.tb
  rw [G8,G8];omega
 refine ⟨?_,htot⟩
 by_cases c:d.rest
 ·obtain ⟨r1,r2,e,r3,_⟩:=Nx c hck
  rw [r3] at hll
  have hf0:f=0∧l=1:=by
   have: [e].length=1:=rfl
   omega
  obtain ⟨rfl,rfl⟩:=hf0
  have e1:A8 d 0 (1 - 0) z=z:=by
   unfold A8
   rw [r3,r1,If,If]
   have:Ci (fun _=>true) ((0:Nat):Int) z.tups=z.tups:=by
    unfold Ci
    rw [List.filter_eq_self.2 (fun _ _=>rfl)]
    show z.tups.map (Tp.mv 0)=z.tups
    rw [show Tp.mv 0=id from funext Tj,List.map_id]
   rw [this]
   simp
  rw [e1,r2]
  simpa using hz
 ·obtain ⟨fr1,fr2⟩:=h.free hab
  have hv:=((K2 c).1 ⟨hck,rfl⟩).2.2.1
  have hrl:(A8 d f (l - f) z).evs.length=d.evs.length - (l - f)+z.evs.length:=by
   rw [Q2 h.fl,List.length_append,List.length_append,List.length_take,List.length_drop];omega
  have:=hv.repl (a:=f) (n:=l - f) (by omega) fr1 (by rw [show ((f:Int)+(l - f:Nat))=(l:Int) by omega];exact fr2) hz (by omega) h5
  rw [show f+(l - f)=l by omega] at this
  exact this
theorem Aiu {v:Vo} {p:Pl} {a b:Int} {d z:Vo} {f l:Nat} (h:RegOk v p a b d f l) (hab:a<b) (h1:Dq z=0) (h2:¬z.rest) (h3:tot (D7 z)=b - a) (h4:(A8 d f (l - f) z).evs.length≤128) (h5:(A8 d f (l - f) z).tups.length≤16):
  ckE (Mc d f l z) p.len=0∧ckL (Mc d f l z) p.len=(ckL d p.len).take f++D7 z++(ckL d p.len).drop l:=by
 obtain ⟨hv,ht⟩:=Auu h hab h1 h2 h3 h4 h5
 have hpb:=(C6 h.chk).2.1
 unfold Pl.bad at hpb
 have hV:VL (Mc d f l z) ((ckL d p.len).take f++D7 z++(ckL d p.len).drop l):=by
  refine ⟨?_,Pu (Pu hv.ev _) _⟩
  show TL (A8 d f (l - f) z).tups (wrS (B9 (B9 (A8 d f (l - f) z).evs _) _)) _
  rw [Vj (Pu hv.ev _),Vj hv.ev];exact hv.tl
 have:=(K2 hV.norest (L:=p.len)).2 ⟨by omega,by omega,hV,fun _=>ht⟩
 exact ⟨this.1,this.2.symm⟩
theorem Sd {v:Vo} {p:Pl} {a b:Int} {z:Vo} (h:(Hh v p a b z).2=0):∃(d:Vo) (f l:Nat),RegOk v p a b d f l∧Dq z=0∧¬z.rest∧tot (D7 z)=b - a∧((a=b∧Hh v p a b z=(v,0))∨(a<b∧(A8 d f (l - f) z).evs.length≤128∧(A8 d f (l - f) z).tups.length≤16∧Hh v p a b z=(Mc d f l z,0))):=by
 obtain ⟨d,f,l,e,hreg,hok⟩:=Mb v p a b
 by_cases c:e≠0
 ·rw [Apo hreg c] at h;exact absurd h c
 ·have hO:=hok (by omega)
  have hr:=hO.rng
  rw [Jb hreg c] at h ⊢
  by_cases c1:128<(z.evs.length:Int)
  ·rw [Apn c1] at h;cases h
  by_cases c2:z.whole
  ·exfalso
   obtain ⟨e0,he0⟩:=N0 c2
   by_cases c3:e0.err≠0
   ·rw [Apm c1 c2 he0 c3] at h;exact c3 h
   ·rw [Apl c1 c2 he0 c3] at h;cases h
  by_cases c3:Dq z≠0
  ·rw [Apk c1 c2 c3] at h;exact absurd h c3
  by_cases c4:tot (D7 z)≠b - a
  ·rw [Apj c1 c2 c3 c4] at h;cases h
  refine ⟨d,f,l,hO,by omega,fun k=>c2 k.1,by omega, ?_⟩
  by_cases c5:a=b
  ·exact .inl ⟨c5,Api c1 c2 c3 c4 c5⟩
  ·by_cases c6:128<((A8 d f (l - f) z).evs.length:Int)∨16<((A8 d f (l - f) z).tups.length:Int)
   ·rw [Abl c1 c2 c3 c4 c5 c6] at h;cases h
   ·exact .inr ⟨by omega,by omega,by omega,Xo c1 c2 c3 c4 c5 c6⟩
theorem Am6 {v:Vo} {p:Pl} {a b:Int} {z:Vo} (h:(Hh v p a b z).2=0):ckE (Hh v p a b z).1 p.len=0:=by
 obtain ⟨d,f,l,hO,h1,h2,h3,⟨_,e⟩|⟨hab,h4,h5,e⟩⟩:=Sd h
 ·rw [e];exact (C6 hO.hc).2.2
 ·rw [e];exact (Aiu hO hab h1 h2 h3 h4 h5).1
end Go.Proofs.YtcihalbakenleaaGreat
namespace Go.Proofs.YtcihalbakenleaaGreat
open Go.RowKit
def mrE:Ev:=⟨0,0,3,⟨0,0⟩, [], [],0,0,0, [],0,0⟩
def mrV:Vo:=⟨[mrE], []⟩
def G1 (p:Pl) (a b:Int):Vo:=⟨Mx p.m (p.off+a) (p.off+b), []⟩
def Al0 (v:Vo) (p:Pl) (a b:Int):Vo × Int:=if a=0∧b=p.len then (mrV,0) else if p.m.splitE (p.off+a) (p.off+b)≠0 then (⟨[], []⟩,p.m.splitE (p.off+a) (p.off+b)) else Hh v p a b (G1 p a b)
def Gu (v:Vo) (p:Pl) (a b:Int):Vo × Int:=if (Dl v p a b).2.2.2≠0 then (⟨[], []⟩,(Dl v p a b).2.2.2) else Al0 v p a b
theorem Ali {v:Vo} {p:Pl} {a b:Int} (h:(Dl v p a b).2.2.2≠0):Gu v p a b=(⟨[], []⟩,(Dl v p a b).2.2.2):=by rw [Gu,if_pos h]
theorem Alh {v:Vo} {p:Pl} {a b:Int} (h:¬(Dl v p a b).2.2.2≠0) (h2:a=0∧b=p.len):Gu v p a b=(mrV,0):=by rw [Gu,if_neg h,Al0,if_pos h2]
theorem Aco {v:Vo} {p:Pl} {a b:Int} (h:¬(Dl v p a b).2.2.2≠0) (h2:¬(a=0∧b=p.len)) (h3:p.m.splitE (p.off+a) (p.off+b)≠0):Gu v p a b=(⟨[], []⟩,p.m.splitE (p.off+a) (p.off+b)):=by rw [Gu,if_neg h,Al0,if_neg h2,if_pos h3]
theorem X5 {v:Vo} {p:Pl} {a b:Int} (h:¬(Dl v p a b).2.2.2≠0) (h2:¬(a=0∧b=p.len)) (h3:¬p.m.splitE (p.off+a) (p.off+b)≠0):Gu v p a b=Hh v p a b (G1 p a b):=by rw [Gu,if_neg h,Al0,if_neg h2,if_neg h3]
theorem Alo (v:Vo) (p:Pl) (a b:Int):(Oo v p a b).2=(Dl v p a b).2.2.2:=by
 by_cases c:(Dl v p a b).2.2.2≠0
 ·rw [Oo,if_pos c]
 ·rw [Oo,if_neg c];exact (Decidable.not_not.1 c).symm
theorem Ain {p:Pl} {a b:Int} {e:Ev} (h:e∈(G1 p a b).evs):e.art=0∧e.heads= []:=by
 obtain ⟨i,hi⟩:=List.getElem?_of_mem h
 rw [show (G1 p a b).evs=Bs restE (p.m.split (p.off+a) (p.off+b)) false from rfl,Bs,List.getElem?_mapIdx] at hi
 cases hv:(p.m.split (p.off+a) (p.off+b))[i]? with
 |none=>rw [hv] at hi;cases hi
 |some v=>
  rw [hv] at hi;cases hi
  unfold Fg
  split
  ·exact ⟨rfl,by show (if _ then List.map Hd.tie [] else [])= [];split<;>rfl⟩
  ·exact ⟨rfl,by show (if _ then List.map Hd.tie [] else [])= [];split<;>rfl⟩
theorem Tb (p:Pl) (a b:Int):Evs (G1 p a b).evs:=fun e he=>by rw [(Ain he).1];decide
theorem Qa (p : Pl) (a b : Int) : (G1 p a b).fit3 := ⟨by
 show (Bs restE _ false).length≤3000
 rw [Cn]; have := Ie p.m (p.off + a) (p.off + b); omega, Nat.zero_le _, Nj O0 _ _⟩
theorem Avu (v:Vo) (p:Pl) (a b:Int) (hE:Evs v.evs) (hF:v.fit):XC Tryz.prog 44 [.agg (Vo.c v), .agg (Pl.c p), .v (.int .i64 a), .v (.int .i64 b)] (fun r=>r= .tup [.agg (Vo.c (Gu v p a b).1),dI (Gu v p a b).2]):=by
 refine Ao Ahj Tryz.func44 R R lb<|zr<|XL.step R (At 4 (l:= [.d (.sl 13 (v.evs.map Ev.c)), .d (.sl 4 (v.tups.map Tp.c))]) R R (by kernel_rfl))<|XL.step R (At 5 (l:= [.d (dI p.m.count), .d (dI p.m.unit), .d (dI p.m.g0), .d (dI p.m.g1), .d (dI p.m.g2), .d (dI p.m.g3), .d (dI p.m.g4), .d (dI p.m.g5), .d (dI p.off), .d (dI p.len)]) R R (by kernel_rfl))<|?_
 refine XL.step R (A0 8 (l:= [.d (.v (.slice none 0 0)), .d (.v (.slice none 0 0))]) R A1 (by kernel_rfl))<|za R R<|zn<|zs<|zr<|zp (Ae (s':= .d (.agg (Vo.c v))) (Ac (Ad R R An R lb)) (by kernel_rfl))<|zp (Ae (s':= .d (.agg (Pl.c p))) (Ac (Ad R R G7 R lb)) (by kernel_rfl))<|zm R R<|zm R R<|?_
 refine XL.call1 R R (Av7 _ _ _ _ (by assumption) (by assumption)) R<|zm R R<|zp (A6 R R R)<|zp (A6 R R R)<|XL.step R (A0 10 (l:= [.d (.v (.slice none 0 0)), .d (.v (.slice none 0 0))]) R A1 (by kernel_rfl))<|XL.step R (Ag (l':= [.d (.sl 13 (((Oo v p a b).1).evs.map Ev.c)), .d (.sl 4 (((Oo v p a b).1).tups.map Tp.c))]) R R R R Bc R lb (by kernel_rfl))<|za R R<|znr<|?_
 refine zm R R<|zp (Be R R R)<|zn<|?_
 refine zd R (fun c23=> ?_) (fun c23=> ?_)
 refine zr<|zp (Ae (s':= .d (.agg [.v (.slice none 0 0), .v (.slice none 0 0)])) (Ac (A4 R Br A1 R)) (by kernel_rfl))<|zm R R<|XL.step R (Ag (l':= [.d (.v (.slice none 0 0)), .d (.v (.slice none 0 0))]) R R R R Bc R lb (by kernel_rfl))<|za R R<|zn<|zt<|?_
 exact Bh R (RV.sub (RV.cells R R R An lb R) (.agg (.cons (.nil 13) (.cons (.nil 4) (.nil))))) (RV.tmp R R) (by rw [Alo];exact r2v (Ali (by rw [←Alo];exact c23)))
 refine zi<|zs<|zs<|?_
 have hr:¬(Dl v p a b).2.2.2≠0:=by rw [←Alo];exact c23
 obtain ⟨d,f,l,e,hreg,hok⟩:=Mb v p a b
 have hO:=hok (by rw [hreg] at hr;exact Decidable.not_not.1 hr)
 have hab:=hO.rng
 have hpb:=(C6 hO.hc).2.1
 unfold Pl.bad at hpb
 refine Af (by kernel_rfl)<|zm R R<|zp (A5 R R R)<|zm R R<|?_
 refine XL.dec 28 R (fun g28=> ?_) (fun g28=> ?_)
 refine zm R R<|zp (Aa R R Fn)<|zp (Ab R R Ai R R)<|zp (A5 R R R)<|zq R R R<|zn<|?_
 refine zd R (fun c33=> ?_) (fun c33=> ?_)
 refine zr<|zp (Ae (s':= .d (.agg [dI 0,dI 0,dI 3,dI 0,dI 0, .v (.slice none 0 0), .v (.slice none 0 0),dI 0,dI 0,dI 0, .v (.slice none 0 0),dI 0,dI 0])) (Ac (A4 R Jp Bw R)) (by kernel_rfl))<|XL.step R (Bj 35 R Tryz.underlying22 B4 Bw R R (by omega) (by omega))<|?_
 refine XL.row1 (i:=35) R (.cons (.same R) (.cons (.same R) (.cons (.same R) (.cons (.same R) (.cons (.same R) (.cons (.nil 5) (.cons (.nil 5) (.cons (.same R) (.cons (.same R) (.cons (.same R) (.cons (.nil 2) (.cons (.same R) (.cons (.same R) (.nil))))))))))))))<|zp (Ac (A4 R Br A1 R))<|?_
 refine XL.step R (Ag (l':= [.own 35, .d (.v (.slice none 0 0))]) R R R R Bc R lb (by kernel_rfl))<|za R R<|zn<|zt<|Bg (i:=35) R<|?_
 exact Bh R (RV.sub (RV.cells R R R An lb R) (.agg (.cons (.same R) (.cons (.nil 4) (.nil))))) (RV.tmp R R) (r2v (Alh hr ⟨g28,c33⟩))
 refine zi<|zr<|zp (Aa R R Mn)<|zp (Ae (s':= .d (.agg (Me.c p.m))) (Ac (Ad R R Bo R lb)) (by kernel_rfl))<|zp (Aa R R Gc)<|zp (Ab R R Ai R R)<|zm R R<|zp (Aj R R R (by omega) (by omega))<|zp (Aa R R Gc)<|zp (Ab R R Ai R R)<|zm R R<|zp (Aj R R R (by omega) (by omega))<|XL.call1 R R (Abf _ _ _) R<|zm R R<|?_
 refine zp (A6 R R R)<|zp (A6 R R R)<|za R R<|za R R<|zn<|zs<|zr<|zm R R<|zp (Be R R R)<|zn<|?_
 refine zd R (fun c52=> ?_) (fun c52=> ?_)
 refine zr<|zp (Ae (s':= .d (.agg [.v (.slice none 0 0), .v (.slice none 0 0)])) (Ac (A4 R Br A1 R)) (by kernel_rfl))<|zm R R<|XL.step R (Ag (l':= [.d (.v (.slice none 0 0)), .d (.v (.slice none 0 0))]) R R R R Bc R lb (by kernel_rfl))<|za R R<|zn<|zt<|?_
 exact Bh R (RV.sub (RV.cells R R R An lb R) (.agg (.cons (.nil 13) (.cons (.nil 4) (.nil))))) (RV.tmp R R) (r2v (Aco hr (by omega) c52))
 refine zi<|zs<|?_
 have hzE:=Tb p a b
 have hzF:=Qa p a b
 refine Af (by kernel_rfl)<|zp (Ae (s':= .d (.agg (Vo.c v))) (Ac (Ad R R An R lb)) (by kernel_rfl))<|zp (Ae (s':= .d (.agg (Pl.c p))) (Ac (Ad R R G7 R lb)) (by kernel_rfl))<|zm R R<|zm R R<|zm R R<|?_
 refine zp (Od (.agg (Vo.c (G1 p a b))) (Ae (s':= .d (.agg [.sl 13 ((Mx p.m (p.off+a) (p.off+b)).map Ev.c), .v (.slice none 0 0)])) (Ac (A4 R Br A1 R)) (by kernel_rfl)) (.agg (.cons (.same R) (.cons (.nil 4) (.nil)))))<|XL.call1 R R (Am5 _ _ _ _ _ (by assumption) (by assumption) (by assumption) (by assumption)) R<|zp (A6 R R R)<|zp (A6 R R R)<|?_
 refine XL.step R (Ag (l':= [.d (.sl 13 (((Hh v p a b (G1 p a b)).1).evs.map Ev.c)), .d (.sl 4 (((Hh v p a b (G1 p a b)).1).tups.map Tp.c))]) R R R R Bc R lb (by kernel_rfl))<|za R R<|zn<|zt<|?_
 exact Bh R (RV.cells R R R An lb R) (RV.tmp R R) (r2v (X5 hr (by omega) c52))
 refine zk 4 R<|zq R R R<|zn<|A9 (by kernel_rfl) R<|zi<|zr<|zp (Aa R R Mn)<|zp (Ae (s':= .d (.agg (Me.c p.m))) (Ac (Ad R R Bo R lb)) (by kernel_rfl))<|zp (Aa R R Gc)<|zp (Ab R R Ai R R)<|zm R R<|zp (Aj R R R (by omega) (by omega))<|zp (Aa R R Gc)<|zp (Ab R R Ai R R)<|?_
 refine zm R R<|zp (Aj R R R (by omega) (by omega))<|XL.call1 R R (Abf _ _ _) R<|zm R R<|zp (A6 R R R)<|zp (A6 R R R)<|za R R<|za R R<|zn<|zs<|zr<|zm R R<|zp (Be R R R)<|zn<|?_
 refine zd R (fun c52=> ?_) (fun c52=> ?_)
 refine zr<|zp (Ae (s':= .d (.agg [.v (.slice none 0 0), .v (.slice none 0 0)])) (Ac (A4 R Br A1 R)) (by kernel_rfl))<|zm R R<|XL.step R (Ag (l':= [.d (.v (.slice none 0 0)), .d (.v (.slice none 0 0))]) R R R R Bc R lb (by kernel_rfl))<|za R R<|zn<|zt<|?_
 exact Bh R (RV.sub (RV.cells R R R An lb R) (.agg (.cons (.nil 13) (.cons (.nil 4) (.nil))))) (RV.tmp R R) (r2v (Aco hr (by omega) c52))
 refine zi<|zs<|?_
 have hzE:=Tb p a b
 have hzF:=Qa p a b
 refine Af (by kernel_rfl)<|zp (Ae (s':= .d (.agg (Vo.c v))) (Ac (Ad R R An R lb)) (by kernel_rfl))<|zp (Ae (s':= .d (.agg (Pl.c p))) (Ac (Ad R R G7 R lb)) (by kernel_rfl))<|zm R R<|zm R R<|zm R R<|?_
 refine zp (Od (.agg (Vo.c (G1 p a b))) (Ae (s':= .d (.agg [.sl 13 ((Mx p.m (p.off+a) (p.off+b)).map Ev.c), .v (.slice none 0 0)])) (Ac (A4 R Br A1 R)) (by kernel_rfl)) (.agg (.cons (.same R) (.cons (.nil 4) (.nil)))))<|XL.call1 R R (Am5 _ _ _ _ _ (by assumption) (by assumption) (by assumption) (by assumption)) R<|zp (A6 R R R)<|zp (A6 R R R)<|?_
 refine XL.step R (Ag (l':= [.d (.sl 13 (((Hh v p a b (G1 p a b)).1).evs.map Ev.c)), .d (.sl 4 (((Hh v p a b (G1 p a b)).1).tups.map Tp.c))]) R R R R Bc R lb (by kernel_rfl))<|za R R<|zn<|zt<|?_
 exact Bh R (RV.cells R R R An lb R) (RV.tmp R R) (r2v (X5 hr (by omega) c52))
end Go.Proofs.YtcihalbakenleaaGreat
namespace Go.Proofs.YtcihalbakenleaaGreat
open Go.RowKit
theorem Awx {v:Vo} {p:Pl} {a b e:Int} (h:(Dl v p a b).2.2.2=e) (he:e≠0):Gu v p a b=(⟨[], []⟩,e):=(Ali (by omega)).trans (by rw [h])
theorem Aai {v:Vo} {p:Pl} {a b:Int} (hr:¬(Dl v p a b).2.2.2≠0) (h2:¬(a=0∧b=p.len)) (h3:p.m.splitE (p.off+a) (p.off+b)=16):Gu v p a b=(⟨[], []⟩,16):=(Aco hr h2 (by rw [h3];decide)).trans (by rw [h3])
theorem Asz (v:Vo) (p:Pl) (a b:Int) (hF:v.fit) (hc:p.chk v=0):XC Tryz.prog 45 [.agg (Vo.c v), .agg (Pl.c p), .v (.int .i64 a), .v (.int .i64 b)] (fun r=>r= .tup [.agg (Vo.c (Gu v p a b).1),dI (Gu v p a b).2]):=by
 obtain ⟨d,f,l,e,hreg,hok⟩:=Mb v p a b
 have hre:(Dl v p a b).2.2.2=e:=by rw [hreg]
 refine Ao Ahi Tryz.func45 R R lb<|zr<|XL.step R (At 4 (l:= [.d (.sl 13 (v.evs.map Ev.c)), .d (.sl 4 (v.tups.map Tp.c))]) R R (by kernel_rfl))<|XL.step R (At 5 (l:= [.d (dI p.m.count), .d (dI p.m.unit), .d (dI p.m.g0), .d (dI p.m.g1), .d (dI p.m.g2), .d (dI p.m.g3), .d (dI p.m.g4), .d (dI p.m.g5), .d (dI p.off), .d (dI p.len)]) R R (by kernel_rfl))<|?_
 refine XL.step R (A0 8 (l:= [.d (.v (.slice none 0 0)), .d (.v (.slice none 0 0))]) R A1 (by kernel_rfl))<|za R R<|zn<|zs<|zr<|zp (Ae (s':= .d (.agg (Vo.c v))) (Ac (Ad R R An R lb)) (by kernel_rfl))<|zp (Ae (s':= .d (.agg (Pl.c p))) (Ac (Ad R R Qk R lb)) (by kernel_rfl))<|zm R R<|zm R R<|XL.call1 R R (Aio hF hc hreg) R<|zm R R<|?_
 refine zp (A6 R R R)<|zp (A6 R R R)<|zp (A6 R R R)<|zp (A6 R R R)<|XL.step R (A0 10 (l:= [.d (.v (.slice none 0 0)), .d (.v (.slice none 0 0))]) R A1 (by kernel_rfl))<|XL.step R (Ag (l':= [.d (.sl 13 (d.evs.map Ev.c)), .d (.sl 4 (d.tups.map Tp.c))]) R R R R Bc R lb (by kernel_rfl))<|za R R<|za R R<|za R R<|znr<|zm R R<|zp (Be R R R)<|zn<|?_
 refine zd R (fun c25=> ?_) (fun c25=> ?_)
 refine zr<|zp (Ae (s':= .d (.agg [.v (.slice none 0 0), .v (.slice none 0 0)])) (Ac (A4 R Br A1 R)) (by kernel_rfl))<|zm R R<|XL.step R (Ag (l':= [.d (.v (.slice none 0 0)), .d (.v (.slice none 0 0))]) R R R R Bc R lb (by kernel_rfl))<|za R R<|zn<|zt<|?_
 exact Bh R (RV.sub (RV.cells R R R An lb R) (.agg (.cons (.nil 13) (.cons (.nil 4) (.nil))))) (RV.tmp R R) (r2v (Awx hre c25))
 refine zi<|zs<|zs<|?_
 have hO:=hok (by omega)
 have hr:¬(Dl v p a b).2.2.2≠0:=by omega
 have hab:=hO.rng
 have hpb:=(C6 hO.hc).2.1
 unfold Pl.bad at hpb
 refine Af (by kernel_rfl)<|zm R R<|zp (A5 R R R)<|zm R R<|?_
 refine XL.dec 30 R (fun g30=> ?_) (fun g30=> ?_)
 refine zm R R<|zp (Aa R R Jl)<|zp (Ab R R Ai R R)<|zp (A5 R R R)<|zq R R R<|zn<|?_
 refine zd R (fun c35=> ?_) (fun c35=> ?_)
 refine zr<|zp (Ae (s':= .d (.agg [dI 0,dI 0,dI 3,dI 0,dI 0, .v (.slice none 0 0), .v (.slice none 0 0),dI 0,dI 0,dI 0, .v (.slice none 0 0),dI 0,dI 0])) (Ac (A4 R Jp Bw R)) (by kernel_rfl))<|XL.step R (Bj 37 R Tryz.underlying22 B4 Bw R R (by omega) (by omega))<|?_
 refine XL.row1 (i:=37) R (.cons (.same R) (.cons (.same R) (.cons (.same R) (.cons (.same R) (.cons (.same R) (.cons (.nil 5) (.cons (.nil 5) (.cons (.same R) (.cons (.same R) (.cons (.same R) (.cons (.nil 2) (.cons (.same R) (.cons (.same R) (.nil))))))))))))))<|zp (Ac (A4 R Br A1 R))<|?_
 refine XL.step R (Ag (l':= [.own 37, .d (.v (.slice none 0 0))]) R R R R Bc R lb (by kernel_rfl))<|za R R<|zn<|zt<|Bg (i:=37) R<|?_
 exact Bh R (RV.sub (RV.cells R R R An lb R) (.agg (.cons (.same R) (.cons (.nil 4) (.nil))))) (RV.tmp R R) (r2v (Alh hr ⟨g30,c35⟩))
 refine zi<|zs<|zs<|?_
 have hn:=Ti (m:=p.m) (a:=p.off+a) (b:=p.off+b) (C6 hO.hc).1 (by omega) (by omega) (by omega) (by omega)
 have hn1:((p.off+a) % 7560≠0∨(p.off+b) % 7560≠0)→p.m.splitE (p.off+a) (p.off+b)=16:=fun k=>by rw [hn,if_pos k]
 refine Af (by kernel_rfl)<|zp (Aa R R D5)<|zp (Ab R R Ai R R)<|zm R R<|zp (Aj R R R (by omega) (by omega))<|zp (D1 R R R (by omega) (by omega))<|zp (Be R R R)<|zm R R<|?_
 refine XL.dec 45 R (fun g45=> ?_) (fun g45=> ?_)
 refine zk 6 R<|zq R R R<|zn<|Aq (by kernel_rfl) R<|zr<|zp (Ae (s':= .d (.agg [.v (.slice none 0 0), .v (.slice none 0 0)])) (Ac (A4 R Br A1 R)) (by kernel_rfl))<|XL.step R (Ag (l':= [.d (.v (.slice none 0 0)), .d (.v (.slice none 0 0))]) R R R R Bc R lb (by kernel_rfl))<|za R R<|zn<|zt<|?_
 exact Bh R (RV.sub (RV.cells R R R An lb R) (.agg (.cons (.nil 13) (.cons (.nil 4) (.nil))))) (RV.tmp R R) (r2v (Aai hr (by omega) (hn1 (by omega))))
 refine zp (Aa R R D5)<|zp (Ab R R Ai R R)<|zm R R<|zp (Aj R R R (by omega) (by omega))<|zp (D1 R R R (by omega) (by omega))<|zp (Be R R R)<|zq R R R<|zn<|?_
 refine zd R (fun c52=> ?_) (fun c52=> ?_)
 refine zr<|zp (Ae (s':= .d (.agg [.v (.slice none 0 0), .v (.slice none 0 0)])) (Ac (A4 R Br A1 R)) (by kernel_rfl))<|XL.step R (Ag (l':= [.d (.v (.slice none 0 0)), .d (.v (.slice none 0 0))]) R R R R Bc R lb (by kernel_rfl))<|za R R<|zn<|zt<|?_
 exact Bh R (RV.sub (RV.cells R R R An lb R) (.agg (.cons (.nil 13) (.cons (.nil 4) (.nil))))) (RV.tmp R R) (r2v (Aai hr (by omega) (hn1 (by omega))))
 refine zi<|zs<|?_
 have hs0:p.m.splitE (p.off+a) (p.off+b)=0:=by rw [hn,if_neg (by omega)]
 have hzE:=Tb p a b
 have hzF:=Qa p a b
 refine Ce 20 [] (by kernel_rfl) (by kernel_rfl) (by kernel_rfl) (by kernel_rfl) (by decide)<|yp (Ae (s':= .d (.agg (Vo.c v))) (Ac (Ad R R An R lb)) (by kernel_rfl))<|yp (Ae (s':= .d (.agg (Pl.c p))) (Ac (Ad R R Qk R lb)) (by kernel_rfl))<|ym R R<|ym R R<|?_
 refine yp (Ae (s':= .d (.agg [dI 0,dI 0,dI 2,dI 0,dI 0, .v (.slice none 0 0), .v (.slice none 0 0),dI 0,dI 0,dI 0, .v (.slice none 0 0),dI 0,dI 0])) (Ac (A4 R Jp Bw R)) (by kernel_rfl))<|yp (Aa R R K8)<|yp (Ae (s':= .d (.agg (Me.c p.m))) (Ac (Ad R R Bo R lb)) (by kernel_rfl))<|yp (Aa R R D5)<|?_
 refine yp (Ab R R Ai R R)<|ym R R<|yp (Aj R R R (by omega) (by omega))<|yp (Aa R R D5)<|yp (Ab R R Ai R R)<|ym R R<|yp (Aj R R R (by omega) (by omega))<|?_
 refine ChK.cons R (CStep.calls R (O2 restE p.m (p.off+a) (p.off+b) O0 hs0) (.cons R (.agg (.cons (.same R) (.cons (.same R) (.cons (.same R) (.cons (.same R) (.cons (.same R) (.cons (.nil 5) (.cons (.nil 5) (.cons (.same R) (.cons (.same R) (.cons (.same R) (.cons (.nil 2) (.cons (.same R) (.cons (.same R) (.nil))))))))))))))) (.cons R (.same R) (.cons R (.same R) (.cons R (.same R) (.nil))))))<|?_
 refine yp (Ae (s':= .d (.agg [.sl 13 ((Mx p.m (p.off+a) (p.off+b)).map Ev.c), .v (.slice none 0 0)])) (Ac (A4 R Br A1 R)) (by kernel_rfl))<|ChK.cons R (CStep.calls R (Ait v p a b (G1 p a b) hF hc hzE hzF) (.cons R (.same R) (.cons R (.same R) (.cons R (.same R) (.cons R (.same R) (.cons R (.agg (.cons (.same R) (.cons (.nil 4) (.nil)))) (.nil)))))))<|?_
 refine yp (A6 R R R)<|yp (A6 R R R)<|?_
 refine ChK.nil ⟨by kernel_rfl, ?_⟩
 refine XL.step R (Ag (l':= [.d (.sl 13 (((Hh v p a b (G1 p a b)).1).evs.map Ev.c)), .d (.sl 4 (((Hh v p a b (G1 p a b)).1).tups.map Tp.c))]) R R R R Bc R lb (by kernel_rfl))<|za R R<|zn<|zt<|?_
 exact Bh R (RV.cells R R R An lb R) (RV.tmp R R) (r2v (X5 hr (by omega) (by omega)))
 refine zk 4 R<|zq R R R<|zn<|A9 (by kernel_rfl) R<|zi<|zs<|zs<|?_
 have hn:=Ti (m:=p.m) (a:=p.off+a) (b:=p.off+b) (C6 hO.hc).1 (by omega) (by omega) (by omega) (by omega)
 have hn1:((p.off+a) % 7560≠0∨(p.off+b) % 7560≠0)→p.m.splitE (p.off+a) (p.off+b)=16:=fun k=>by rw [hn,if_pos k]
 refine Af (by kernel_rfl)<|zp (Aa R R D5)<|zp (Ab R R Ai R R)<|zm R R<|zp (Aj R R R (by omega) (by omega))<|zp (D1 R R R (by omega) (by omega))<|zp (Be R R R)<|zm R R<|?_
 refine XL.dec 45 R (fun g45=> ?_) (fun g45=> ?_)
 refine zk 6 R<|zq R R R<|zn<|Aq (by kernel_rfl) R<|zr<|zp (Ae (s':= .d (.agg [.v (.slice none 0 0), .v (.slice none 0 0)])) (Ac (A4 R Br A1 R)) (by kernel_rfl))<|XL.step R (Ag (l':= [.d (.v (.slice none 0 0)), .d (.v (.slice none 0 0))]) R R R R Bc R lb (by kernel_rfl))<|za R R<|zn<|zt<|?_
 exact Bh R (RV.sub (RV.cells R R R An lb R) (.agg (.cons (.nil 13) (.cons (.nil 4) (.nil))))) (RV.tmp R R) (r2v (Aai hr (by omega) (hn1 (by omega))))
 refine zp (Aa R R D5)<|zp (Ab R R Ai R R)<|zm R R<|zp (Aj R R R (by omega) (by omega))<|zp (D1 R R R (by omega) (by omega))<|zp (Be R R R)<|zq R R R<|zn<|?_
 refine zd R (fun c52=> ?_) (fun c52=> ?_)
 refine zr<|zp (Ae (s':= .d (.agg [.v (.slice none 0 0), .v (.slice none 0 0)])) (Ac (A4 R Br A1 R)) (by kernel_rfl))<|XL.step R (Ag (l':= [.d (.v (.slice none 0 0)), .d (.v (.slice none 0 0))]) R R R R Bc R lb (by kernel_rfl))<|za R R<|zn<|zt<|?_
 exact Bh R (RV.sub (RV.cells R R R An lb R) (.agg (.cons (.nil 13) (.cons (.nil 4) (.nil))))) (RV.tmp R R) (r2v (Aai hr (by omega) (hn1 (by omega))))
 refine zi<|zs<|?_
 have hs0:p.m.splitE (p.off+a) (p.off+b)=0:=by rw [hn,if_neg (by omega)]
 have hzE:=Tb p a b
 have hzF:=Qa p a b
 refine Ce 20 [] (by kernel_rfl) (by kernel_rfl) (by kernel_rfl) (by kernel_rfl) (by decide)<|yp (Ae (s':= .d (.agg (Vo.c v))) (Ac (Ad R R An R lb)) (by kernel_rfl))<|yp (Ae (s':= .d (.agg (Pl.c p))) (Ac (Ad R R Qk R lb)) (by kernel_rfl))<|ym R R<|ym R R<|?_
 refine yp (Ae (s':= .d (.agg [dI 0,dI 0,dI 2,dI 0,dI 0, .v (.slice none 0 0), .v (.slice none 0 0),dI 0,dI 0,dI 0, .v (.slice none 0 0),dI 0,dI 0])) (Ac (A4 R Jp Bw R)) (by kernel_rfl))<|yp (Aa R R K8)<|yp (Ae (s':= .d (.agg (Me.c p.m))) (Ac (Ad R R Bo R lb)) (by kernel_rfl))<|yp (Aa R R D5)<|?_
 refine yp (Ab R R Ai R R)<|ym R R<|yp (Aj R R R (by omega) (by omega))<|yp (Aa R R D5)<|yp (Ab R R Ai R R)<|ym R R<|yp (Aj R R R (by omega) (by omega))<|?_
 refine ChK.cons R (CStep.calls R (O2 restE p.m (p.off+a) (p.off+b) O0 hs0) (.cons R (.agg (.cons (.same R) (.cons (.same R) (.cons (.same R) (.cons (.same R) (.cons (.same R) (.cons (.nil 5) (.cons (.nil 5) (.cons (.same R) (.cons (.same R) (.cons (.same R) (.cons (.nil 2) (.cons (.same R) (.cons (.same R) (.nil))))))))))))))) (.cons R (.same R) (.cons R (.same R) (.cons R (.same R) (.nil))))))<|?_
 refine yp (Ae (s':= .d (.agg [.sl 13 ((Mx p.m (p.off+a) (p.off+b)).map Ev.c), .v (.slice none 0 0)])) (Ac (A4 R Br A1 R)) (by kernel_rfl))<|ChK.cons R (CStep.calls R (Ait v p a b (G1 p a b) hF hc hzE hzF) (.cons R (.same R) (.cons R (.same R) (.cons R (.same R) (.cons R (.same R) (.cons R (.agg (.cons (.same R) (.cons (.nil 4) (.nil)))) (.nil)))))))<|?_
 refine yp (A6 R R R)<|yp (A6 R R R)<|?_
 refine ChK.nil ⟨by kernel_rfl, ?_⟩
 refine XL.step R (Ag (l':= [.d (.sl 13 (((Hh v p a b (G1 p a b)).1).evs.map Ev.c)), .d (.sl 4 (((Hh v p a b (G1 p a b)).1).tups.map Tp.c))]) R R R R Bc R lb (by kernel_rfl))<|za R R<|zn<|zt<|?_
 exact Bh R (RV.cells R R R An lb R) (RV.tmp R R) (r2v (X5 hr (by omega) (by omega)))
end Go.Proofs.YtcihalbakenleaaGreat
namespace Go.Proofs.YtcihalbakenleaaGreat
theorem Ava {L:Int} (h0:¬L<1) (h1:¬15482880<L):ckE mrV L=0:=by
 have hw:mrV.whole:=rfl
 have e1:Cj mrV L=0:=(Wy h0 h1 (by decide) hw rfl (e:=mrE) rfl).trans (by decide)
 have e2:Cz mrV L= [L]:=by rw [Cz,e1];rfl
 unfold ckE
 rw [e1,e2,if_neg]
 rw [Hy,Hx];omega
theorem T1 {l:List Ev} {i:Int} {k:Nat} (h:∀x,l[k]? =some x→x.heads= []):∀x,(B9 l i)[k]? =some x→x.heads= []:=by
 unfold B9
 split
 ·exact h
 ·split
  ·rename_i x y hx hy
   intro z hz
   by_cases c:i.toNat=k
   ·subst c
    rw [List.getElem?_set_self (List.getElem?_eq_some_iff.1 hx).1] at hz
    cases hz
    show x.heads.map _= []
    rw [h x hx];rfl
   ·rw [List.getElem?_set_ne c] at hz;exact h z hz
  ·exact h
theorem Aj6 {v:Vo} {p:Pl} {a b:Int} (h:(Hh v p a b (G1 p a b)).2=0) (hab:a≠b):Jq (Hh v p a b (G1 p a b)).1 p.len a= []:=by
 obtain ⟨d,f,l,hO,h1,h2,h3,⟨h4,_⟩|⟨hlt,h4,h5,e⟩⟩:=Sd h
 ·exact absurd h4 hab
 ·rw [e]
  have hck:=Aiu hO hlt h1 h2 h3 h4 h5
  obtain ⟨hc,hL⟩:=hck
  have hr:=hO.rng
  have ht:=hO.tot
  have hcl:=Ge (C6 hO.chk).2.2
  have hll:=hO.ll
  have hfl:=hO.fl
  have hf:((ckL d p.len).take f).length=f:=by rw [List.length_take];omega
  obtain ⟨w,r,hi⟩:∃w r,D7 (G1 p a b)=w::r:=by
   cases hx:D7 (G1 p a b) with
   |nil=>rw [hx,Hx] at h3;omega
   |cons w r=>exact ⟨w,r,rfl⟩
  have hw:(ckL (Mc d f l (G1 p a b)) p.len)[f]? =some w:=by
   rw [hL,hi,List.append_assoc,List.getElem?_append_right (by omega),hf,Nat.sub_self];rfl
  have hp:=Lk hc
  have hw0:0<w:=hp w (List.mem_of_getElem? hw)
  have htk:tot ((ckL (Mc d f l (G1 p a b)) p.len).take f)=a:=by
   rw [hL,List.append_assoc,List.take_append_of_le_length (by omega),List.take_take,Nat.min_self];exact ht.ta
  have hkl:=(List.getElem?_eq_some_iff.1 hw).1
  have hcl2:=Ge hc
  obtain ⟨x,hx⟩:∃x,(Mc d f l (G1 p a b)).evs[f]? =some x:=Au (by omega)
  have hxh:x.heads= []:=by
   refine T1 (T1 fun y hy=> ?_) x hx
   have h6:=Am7 (z:=G1 p a b) (a:=a) (b:=b) h1 (fun k=>k h3) hab
   have h7:(d.evs.take f).length=f:=by rw [List.length_take];omega
   rw [Q2 hfl,List.append_assoc,List.getElem?_append_right (by omega),h7,Nat.sub_self,List.getElem?_append_left h6] at hy
   exact (Ain (List.mem_of_getElem? hy)).2
  have hs:=Amg hc (t:=a) (by omega) (by omega)
  rw [Xj hp hx hw (by omega) (by omega),evP,hxh] at hs
  exact List.map_eq_nil_iff.1 hs
theorem Ani (L t:Int):Jq mrV L t= []:=by
 unfold Jq
 split
 ·rfl
 ·split
  ·rename_i x hx
   have:=List.mem_of_getElem? hx
   have:x=mrE:=List.mem_singleton.1 this
   rw [this];rfl
  ·rfl
theorem Zv {v:Vo} {p:Pl} {a b:Int} (hc:p.chk v=0) (h:(Gu v p a b).2=0):ckE (Gu v p a b).1 p.len=0∧(a≠b→Jq (Gu v p a b).1 p.len a= []):=by
 have hb:=(C6 hc).2.1
 unfold Pl.bad at hb
 by_cases c1:(Dl v p a b).2.2.2≠0
 ·rw [Ali c1] at h;exact absurd h c1
 by_cases c2:a=0∧b=p.len
 ·rw [Alh c1 c2];exact ⟨Ava (by omega) (by omega),fun _=>Ani _ _⟩
 by_cases c3:p.m.splitE (p.off+a) (p.off+b)≠0
 ·rw [Aco c1 c2 c3] at h;exact absurd h c3
 ·rw [X5 c1 c2 c3] at h ⊢
  exact ⟨Am6 h,fun k=>Aj6 h k⟩
theorem Ajf {v:Vo} {p:Pl} {a b:Int} (hF:v.fit) (h:(Gu v p a b).2=0):(Gu v p a b).1.fit:=by
 by_cases c1:(Dl v p a b).2.2.2≠0
 ·rw [Ali c1] at h;exact absurd h c1
 by_cases c2:a=0∧b=p.len
 ·rw [Alh c1 c2]
  refine ⟨by decide,by decide,fun e he=> ?_⟩
  rw [List.mem_singleton.1 he];exact ⟨by decide,by decide,by decide⟩
 by_cases c3:p.m.splitE (p.off+a) (p.off+b)≠0
 ·rw [Aco c1 c2 c3] at h;exact absurd h c3
 ·rw [X5 c1 c2 c3] at h ⊢
  obtain ⟨d,f,l,hO,_,_,_,⟨_,e⟩|⟨_,h4,h5,e⟩⟩:=Sd h
  ·rw [e];exact hF
  ·rw [e];exact Abm (hO.fit hF) (Qa p a b) (by omega)
end Go.Proofs.YtcihalbakenleaaGreat
namespace Go.Proofs.YtcihalbakenleaaGreat
open Go.RowKit
theorem Axd {v:Vo} {p:Pl} {a b:Int} (h:¬p.chk v=0):Gu v p a b=(⟨[], []⟩,p.chk v):=by
 have e:=Apb (a:=a) (b:=b) h
 rw [Gu,e,if_pos h]
theorem Atc (v:Vo) (p:Pl) (a b:Int) (hE:Evs v.evs):XC Tryz.prog 12 [.agg (Vo.c v), .agg (Pl.c p), .agg [dI a,dI b]] (fun r=>r=dB true):=by
 refine Ao Ah5 Tryz.func12 R R lb<|zr<|XL.step R (At 3 (l:= [.d (.sl 13 (v.evs.map Ev.c)), .d (.sl 4 (v.tups.map Tp.c))]) R R (by kernel_rfl))<|XL.step R (At 4 (l:= [.d (dI p.m.count), .d (dI p.m.unit), .d (dI p.m.g0), .d (dI p.m.g1), .d (dI p.m.g2), .d (dI p.m.g3), .d (dI p.m.g4), .d (dI p.m.g5), .d (dI p.off), .d (dI p.len)]) R R (by kernel_rfl))<|?_
 refine XL.step R (At 5 (l:= [_,_]) R R R)<|za R R<|zn<|zs<|zr<|XL.call1 R R (U8) R<|zp (Dd R R)<|zm R R<|?_
 refine XL.bool 13 R (fun g13=> ?_) (fun g13=> ?_)
 exact zk 3 R<|zq R R R<|zn<|Aq (by kernel_rfl) R<|zr<|XL.call1 R R (U8) R<|za R R<|zn<|zt<|z1 R R (R)
 refine zp (Ae (s':= .d (.agg (Vo.c v))) (Ac (Ad R R An R lb)) (by kernel_rfl))<|XL.call1 R R (Avs _) R<|zp (B6 R R)<|zq R R R<|zn<|?_
 refine zd R (fun c17=> ?_) (fun c17=> ?_)
 exact zr<|XL.call1 R R (U8) R<|za R R<|zn<|zt<|z1 R R (R)
 refine zi<|zs<|?_
 have hfv:=Decidable.not_not.1 c17
 have htl:=hfv.2.2
 have hF:=hfv.fit
 refine Af (by kernel_rfl)<|zp (Ae (s':= .d (.agg (Vo.c v))) (Ac (Ad R R An R lb)) (by kernel_rfl))<|zp (Ae (s':= .d (.agg (Pl.c p))) (Ac (Ad R R G7 R lb)) (by kernel_rfl))<|zp (D2 (k:=0) R R R Tryz.underlying62 Cs (by omega))<|zp (Ab R R Ai R R)<|zp (D2 (k:=1) R R R Tryz.underlying62 Cs (by omega))<|?_
 refine zp (Ab R R Ai R R)<|XL.call1 R R (Avu _ _ _ _ (by assumption) (by assumption)) R<|zm R R<|zp (A6 R R R)<|zp (A6 R R R)<|XL.step R (A0 7 (l:= [.d (.v (.slice none 0 0)), .d (.v (.slice none 0 0))]) R A1 (by kernel_rfl))<|XL.step R (Ag (l':= [_,_]) R R R R Bc R lb R)<|za R R<|znr<|?_
 refine zp (Ae (s':= .d (.agg (Vo.c v))) (Ac (Ad R R An R lb)) (by kernel_rfl))<|zp (Ae (s':= .d (.agg (Pl.c p))) (Ac (Ad R R G7 R lb)) (by kernel_rfl))<|XL.call1 R R (Alc _ _ (by assumption) (by omega)) R<|za R R<|znr<|XL.step R (A0 10 (l:= [.d (.v (.slice none 0 0)), .d (.v (.slice none 0 0))]) R A1 (by kernel_rfl))<|zn<|zs<|zr<|?_
 refine zm R R<|zp (A5 R R R)<|zn<|?_
 refine zd R (fun c33=> ?_) (fun c33=> ?_)
 have hc0:p.chk v=0:=c33
 refine Af (by kernel_rfl)<|zp (Ae (s':= .d (.agg (Vo.c v))) (Ac (Ad R R An R lb)) (by kernel_rfl))<|zp (Ae (s':= .d (.agg (Pl.c p))) (Ac (Ad R R G7 R lb)) (by kernel_rfl))<|zp (D2 (k:=0) R R R Tryz.underlying62 Cs (by omega))<|zp (Ab R R Ai R R)<|zp (D2 (k:=1) R R R Tryz.underlying62 Cs (by omega))<|?_
 refine zp (Ab R R Ai R R)<|XL.call1 R R (Asz _ _ _ _ (by assumption) (by assumption)) R<|zm R R<|zp (A6 R R R)<|zp (A6 R R R)<|XL.step R (Ag (l':= [_,_]) R R R R Bc R lb R)<|za R R<|zn<|zs<|zr<|zm R R<|zm R R<|zp (F7 (Be R R R) (fun k=>k (by first|rfl|rw [hd1])))<|zm R R<|?_
 refine zp (Ae (s':= .d (.agg [_,_])) (Ac (Ad R R An R lb)) R)<|zp (Ae (s':= .d (.agg [_,_])) (Ac (Ad R R An R lb)) R)<|XL.call1 R R (Al3 (Ab9 _ _) (by first|rfl|rw [hd1])) R<|zp (Ae (s':= .d (dB false)) (Dd R R) (R))<|zq R R R<|zn<|A9 (by kernel_rfl) R<|zi<|zr<|zm R R<|zp (Be R R R)<|zm R R<|?_
 refine XL.dec 55 R (fun g55=> ?_) (fun g55=> ?_)
 exact zk 22 R<|zq R R R<|za R R<|zn<|zt<|z1 R R (R)
 have hzz:=(by first|exact Zv hc0 (Decidable.not_not.1 g55)|(exfalso;exact g55 (by rw [hd1];exact c33)):ckE (Gu v p a b).1 p.len=0∧(a≠b→Jq (Gu v p a b).1 p.len a= []))
 have hzF:=(by first|exact Ajf hF (Decidable.not_not.1 g55)|(exfalso;exact g55 (by rw [hd1];exact c33)):(Gu v p a b).1.fit)
 obtain ⟨hz,hsn⟩:=hzz
 have hzE:=(Ix hz).2
 have hzt:=Ajj hz
 refine zp (Ae (s':= .d (.agg [_,_])) (Ac (Ad R R An R lb)) R)<|zp (Aa R R Fn)<|zp (Ab R R Ai R R)<|XL.call1 R R (Py _ _ (by assumption) (by omega)) R<|zp (Dz (A5 R R R) (hz))<|zm R R<|zp (D2 (k:=0) R R R Tryz.underlying62 Cs (by omega))<|zp (Ab R R Ai R R)<|?_
 refine zp (D2 (k:=1) R R R Tryz.underlying62 Cs (by omega))<|zp (Ab R R Ai R R)<|zp (A5 R R R)<|zm R R<|?_
 refine XL.dec 67 R (fun g67=> ?_) (fun g67=> ?_)
 exact zk 8 R<|zq R R R<|zq R R R<|zq R R R<|za R R<|zn<|zt<|z1 R R (R)
 refine zp (Ae (s':= .d (.agg [_,_])) (Ac (Ad R R An R lb)) R)<|zp (Aa R R Fn)<|zp (Ab R R Ai R R)<|zp (D2 (k:=0) R R R Tryz.underlying62 Cs (by omega))<|zp (Ab R R Ai R R)<|XL.call1 R R (Aa2 _ _ _ (by assumption) (by assumption)) R<|XL.len R R R Tryz.underlying48 fun hl74=>zp (Dz (A5 R R R) (by rw [hsn g67];rfl))<|?_
 exact zq R R R<|zq R R R<|zq R R R<|za R R<|zn<|zt<|z1 R R (R)
 have hd1:=Axd (a:=a) (b:=b) c33
 refine zi<|zs<|zr<|zm R R<|zm R R<|zp (F7 (Be R R R) (fun k=>k (by first|rfl|rw [hd1])))<|zm R R<|zp (Ae (s':= .d (.agg [_,_])) (Ac (Ad R R An R lb)) R)<|?_
 refine zp (Od (.agg (Vo.c ⟨[], []⟩)) (Ae (s':= .d (.agg [.v (.slice none 0 0), .v (.slice none 0 0)])) (Ac (Ad R R An R lb)) (by kernel_rfl)) (.agg (.cons (.nil 13) (.cons (.nil 4) (.nil)))))<|XL.call1 R R (Al3 (Ab9 _ _) (by first|rfl|rw [hd1])) R<|zp (Ae (s':= .d (dB false)) (Dd R R) (R))<|zq R R R<|zn<|A9 (by kernel_rfl) R<|zi<|zr<|zm R R<|?_
 refine zp (Be R R R)<|zm R R<|?_
 refine XL.dec 55 R (fun g55=> ?_) (fun g55=> ?_)
 exact zk 22 R<|zq R R R<|za R R<|zn<|zt<|z1 R R (R)
 have hzz:=(by first|exact Zv hc0 (Decidable.not_not.1 g55)|(exfalso;exact g55 (by rw [hd1];exact c33)):ckE (Gu v p a b).1 p.len=0∧(a≠b→Jq (Gu v p a b).1 p.len a= []))
 have hzF:=(by first|exact Ajf hF (Decidable.not_not.1 g55)|(exfalso;exact g55 (by rw [hd1];exact c33)):(Gu v p a b).1.fit)
 obtain ⟨hz,hsn⟩:=hzz
 have hzE:=(Ix hz).2
 have hzt:=Ajj hz
 refine zp (Ae (s':= .d (.agg [_,_])) (Ac (Ad R R An R lb)) R)<|zp (Aa R R Fn)<|zp (Ab R R Ai R R)<|XL.call1 R R (Py _ _ (by assumption) (by omega)) R<|zp (Dz (A5 R R R) (hz))<|zm R R<|zp (D2 (k:=0) R R R Tryz.underlying62 Cs (by omega))<|zp (Ab R R Ai R R)<|?_
 refine zp (D2 (k:=1) R R R Tryz.underlying62 Cs (by omega))<|zp (Ab R R Ai R R)<|zp (A5 R R R)<|zm R R<|?_
 refine XL.dec 67 R (fun g67=> ?_) (fun g67=> ?_)
 exact zk 8 R<|zq R R R<|zq R R R<|zq R R R<|za R R<|zn<|zt<|z1 R R (R)
 refine zp (Ae (s':= .d (.agg [_,_])) (Ac (Ad R R An R lb)) R)<|zp (Aa R R Fn)<|zp (Ab R R Ai R R)<|zp (D2 (k:=0) R R R Tryz.underlying62 Cs (by omega))<|zp (Ab R R Ai R R)<|XL.call1 R R (Aa2 _ _ _ (by assumption) (by assumption)) R<|XL.len R R R Tryz.underlying48 fun hl74=>zp (Dz (A5 R R R) (by rw [hsn g67];rfl))<|?_
 exact zq R R R<|zq R R R<|zq R R R<|za R R<|zn<|zt<|z1 R R (R)
end Go.Proofs.YtcihalbakenleaaGreat
