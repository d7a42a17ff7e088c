/- Part 11 of what the statements need: lemmas and walks. -/
import Derived.Test.YtaafemnkamfgnaaGreatFt10
set_option linter.unusedVariables false
set_option linter.unusedSimpArgs false
set_option linter.unusedSectionVars false
set_option maxRecDepth 20000
set_option maxHeartbeats 8000000
namespace Go.Proofs.YtaafemnkamfgnaaGreat
open Go.RowKit
theorem Mv (t:Me) (n:Int):(plS t n).len=mlV t n:=by
 by_cases h:mlE t n≠0
 ·rw [Al2 h,mlV,if_pos h];rfl
 ·rw [Vk h]
theorem Ati {t:Me} {n:Int} (h:¬mlE t n≠0):(plS t n).m=t:=by rw [Vk h]
theorem Asj (m:Ms):XC Tryz.prog 17 [.agg (Ms.c m)] (fun r=>r= .tup [dI (plS m.h.m m.h.len).len,dI (mlE m.h.m m.h.len)]):=by
 have k:=Ajr m.h m.tempi m.cells
 rw [←Mv] at k
 exact k
theorem Ap6 (t:Me) (n:Int):XC Tryz.prog 17 [.agg [dI 0,dI 0,dI t.count,dI t.unit,dI t.g0,dI t.g1,dI t.g2,dI t.g3,dI t.g4,dI t.g5,dI n,dI 0,dB false,dI 0,dI 0,dI 0,dI 0,dI 0,dI 0, .v (.string ⟨#[]⟩), .v (.slice none 0 0), .v (.slice none 0 0)]] (fun r=>r= .tup [dI (plS t n).len,dI (mlE t n)]):=by
 have k:=Asi t n
 rw [←Mv] at k
 exact k
theorem Aff (t:Me) (n:Int) (h:¬mlE t n≠0):XC Tryz.prog 68 [.agg (Me.c t),dI (plS t n).len] (fun r=>r= .agg (Pl.c (plS t n))):=by
 have k:=Ajo t (plS t n).len
 rw [show T2 t (plS t n).len=plS t n by rw [Mv];exact (Al1 h).symm] at k
 exact k
theorem Afb (t:Me) (n a b:Int) (h:¬mlE t n≠0):XC Tryz.prog 70 [.agg (Me.c t),dI a,dI b] (fun r=>r= .tup [.sl 13 ((G2 (plS t n).m a b).map Ev.c),dI ((plS t n).m.splitE a b)]):=by
 rw [Ati h];exact Sx t a b
theorem H9 {m:Ms} {t:Me} {n e:Int} {k j:Nat} {x:Ce} {y:Vo} (h:¬mlE m.h.m m.h.len≠0) (h2:¬mlE t n≠0) (hgo:G5 (plS m.h.m m.h.len) (plS t n) (m.cells.drop k)=G5 (plS m.h.m m.h.len) (plS t n) m.cells) (hx:m.cells[k]? =some x)
  (hgv:Gt (plS m.h.m m.h.len) (plS t n) (x.voices.drop j)=Gt (plS m.h.m m.h.len) (plS t n) x.voices) (hy:x.voices[j]? =some y) (hf:(De y (plS m.h.m m.h.len) (plS t n)).2=e) (he:e≠0):
  D.tup [.agg (Ms.c Ms.z),dI e]= .tup [.agg (Ms.c (Co m t n)),dI (Ih m t n)]:=by
 have h3:Gt (plS m.h.m m.h.len) (plS t n) x.voices=e:=by rw [←hgv,Ta hy (by rw [hf];exact he),hf]
 have h4:G5 (plS m.h.m m.h.len) (plS t n) m.cells=e:=by rw [←hgo,Z8 hx (by rw [h3];exact he),h3]
 obtain ⟨k1,k2⟩:=Ast h h2 h4 he
 rw [k1,k2]
theorem F6 {t:Me} {n:Int} (h:¬mlE t n≠0) (h2:t.lenV=(plS t n).len):0=Ga t n:=by
 have k:=Zm h
 have e0:=Aod h
 have e1:t.lenV=t.len:=by rw [Me.lenV,if_neg (by omega)]
 rw [Mv,k.v,e1] at h2
 unfold mlN at h2
 unfold Ga
 split at h2
 ·rw [if_pos ⟨e0,h2⟩]
 ·have:=k.nn
  split
  ·rfl
  ·omega
theorem F5 {t:Me} {n:Int} (h:¬mlE t n≠0) (h2:¬t.lenV=(plS t n).len):(plS t n).len=Ga t n:=by
 have k:=Zm h
 have e0:=Aod h
 have e1:t.lenV=t.len:=by rw [Me.lenV,if_neg (by omega)]
 rw [Mv,k.v,e1] at h2
 rw [Mv,k.v]
 unfold mlN at h2 ⊢
 unfold Ga
 split at h2
 ·rename_i hn
  rw [if_pos hn,if_neg (fun e=>h2 e.2)]
 ·exact absurd rfl h2
theorem Gw {m:Ms} {t:Me} {n l:Int} (hl:l=Ga t n) (h:¬mlE m.h.m m.h.len≠0) (h2:¬mlE t n≠0) (hgo:G5 (plS m.h.m m.h.len) (plS t n) m.cells=0):
  D.tup [.agg [dI m.h.site,dI m.h.num,dI t.count,dI t.unit,dI t.g0,dI t.g1,dI t.g2,dI t.g3,dI t.g4,dI t.g5,dI l,dI m.h.fifths,dB m.h.start,dI m.h.fin,dI m.h.ends,dI m.h.jump,dI m.h.labels,dI m.h.swing,dI m.h.brk, .v (.string ⟨m.h.reh.toArray⟩), .sl 3 ((m.tempi.filter (tmK (plS t n).len)).map Tm.c), .sl 2 ((m.cells.map (Bo (plS m.h.m m.h.len) (plS t n))).map Ce.c)],dI 0]= .tup [.agg (Ms.c (Co m t n)),dI (Ih m t n)]:=by
 obtain ⟨k1,k2⟩:=Am0 h h2 hgo
 subst hl
 rw [k1,k2];rfl
theorem Ap8 (m:Ms) (t:Me) (n:Int) (hF:m.fit) (hE:m.evs) (hR:m.room) (hs:Bu m=m):XC Tryz.prog 29 [.agg (Ms.c m), .agg (Me.c t), .v (.int .i64 n)] (fun r=>r= .tup [.agg (Ms.c (Co m t n)),dI (Ih m t n)]):=by
 have hcl0:=hF.cells
 have htl0:=hF.tempi
 refine Am Aep Tryz.func29 R R lb<|zr<|?_
 refine XL.step R (An 3 (l:= [.d (dI m.h.site), .d (dI m.h.num), .d (dI m.h.m.count), .d (dI m.h.m.unit), .d (dI m.h.m.g0), .d (dI m.h.m.g1), .d (dI m.h.m.g2), .d (dI m.h.m.g3), .d (dI m.h.m.g4), .d (dI m.h.m.g5), .d (dI m.h.len), .d (dI m.h.fifths), .d (dB m.h.start), .d (dI m.h.fin), .d (dI m.h.ends), .d (dI m.h.jump), .d (dI m.h.labels), .d (dI m.h.swing), .d (dI m.h.brk), .d (.v (.string ⟨m.h.reh.toArray⟩)), .d (.sl 3 (m.tempi.map Tm.c)), .d (.sl 2 (m.cells.map Ce.c))]) R R (by kernel_rfl))<|?_
 refine XL.step R (An 4 (l:= [.d (dI t.count), .d (dI t.unit), .d (dI t.g0), .d (dI t.g1), .d (dI t.g2), .d (dI t.g3), .d (dI t.g4), .d (dI t.g5)]) R R (by kernel_rfl))<|?_
 refine XL.step R (Ao 6 (l:= [.d (dI 0), .d (dI 0), .d (dI 0), .d (dI 0), .d (dI 0), .d (dI 0), .d (dI 0), .d (dI 0), .d (dI 0), .d (dI 0), .d (dI 0), .d (dI 0), .d (dB false), .d (dI 0), .d (dI 0), .d (dI 0), .d (dI 0), .d (dI 0), .d (dI 0), .d (.v (.string ⟨#[]⟩)), .d (.v (.slice none 0 0)), .d (.v (.slice none 0 0))]) R C2 (by kernel_rfl))<|za R R<|znr<|?_
 refine zp (Ae (s':= .d (.agg (Ms.c m))) (Ac (Ad R R Bn R lb)) (by kernel_rfl))<|XL.call1 R R (Asj m) R<|zm R R<|zp (Ar R R R)<|zp (Ar R R R)<|za R R<|za R R<|zn<|zs<|zr<|zm R R<|zp (Az R R R)<|zn<|?_
 refine zd R (fun c30=> ?_) (fun c30=> ?_)
 refine zr<|?_
 refine zp (Ae (s':= .d (.agg [dI 0,dI 0,dI 0,dI 0,dI 0,dI 0,dI 0,dI 0,dI 0,dI 0,dI 0,dI 0,dB false,dI 0,dI 0,dI 0,dI 0,dI 0,dI 0, .v (.string ⟨#[]⟩), .v (.slice none 0 0), .v (.slice none 0 0)])) (Ac (A1 (r:= [.d (dI 0), .d (dI 0), .d (dI 0), .d (dI 0), .d (dI 0), .d (dI 0), .d (dI 0), .d (dI 0), .d (dI 0), .d (dI 0), .d (dI 0), .d (dI 0), .d (dB false), .d (dI 0), .d (dI 0), .d (dI 0), .d (dI 0), .d (dI 0), .d (dI 0), .d (.v (.string ⟨#[]⟩)), .d (.v (.slice none 0 0)), .d (.v (.slice none 0 0))]) R F8 C2 (by kernel_rfl))) (by kernel_rfl))<|?_
 refine zm R R<|XL.step R (Af (l':= [.d (dI 0), .d (dI 0), .d (dI 0), .d (dI 0), .d (dI 0), .d (dI 0), .d (dI 0), .d (dI 0), .d (dI 0), .d (dI 0), .d (dI 0), .d (dI 0), .d (dB false), .d (dI 0), .d (dI 0), .d (dI 0), .d (dI 0), .d (dI 0), .d (dI 0), .d (.v (.string ⟨#[]⟩)), .d (.v (.slice none 0 0)), .d (.v (.slice none 0 0))]) R R R R Do R lb (by kernel_rfl))<|za R R<|zn<|zt<|?_
 exact Ax R (RV.sub (RV.cells R R R Bn lb R) (.agg (.cons (.same R) (.cons (.same R) (.cons (.same R) (.cons (.same R) (.cons (.same R) (.cons (.same R) (.cons (.same R) (.cons (.same R) (.cons (.same R) (.cons (.same R) (.cons (.same R) (.cons (.same R) (.cons (.same R) (.cons (.same R) (.cons (.same R) (.cons (.same R) (.cons (.same R) (.cons (.same R) (.cons (.same R) (.cons (.same R) (.cons (.nil 3) (.cons (.nil 2) (.nil))))))))))))))))))))))))) (RV.tmp R R) (by first|exact H9 c30 c41 hgo hx hgv hy (by first|rw [Kv hns c105 (by omega)]|rw [Fq hns c105 (by omega)]|rw [Ku hns c105 (by omega)]|rw [Fp hns c105 (by omega)]) (by omega)|exact prE (F3 (by assumption)).2.symm (F3 (by assumption)).1.symm|exact prE (Fs c30 (by assumption)).2.symm (Fs c30 (by assumption)).1.symm|(rw [show m.tempi.take i=m.tempi from List.take_of_length_le (by omega)];exact Gw (by first|exact F6 c41 (by omega)|exact F5 c41 (by omega)) c30 c41 (by rw [←hgo,List.drop_of_length_le (by omega)];rfl)))
 refine zi<|zr<|zp (Ae (s':= .d (.agg (Me.c t))) (Ac (Ad R R A8 R lb)) (by kernel_rfl))<|zm R R<|?_
 refine zp (Ae (s':= .d (.agg [dI 0,dI 0,dI t.count,dI t.unit,dI t.g0,dI t.g1,dI t.g2,dI t.g3,dI t.g4,dI t.g5,dI n,dI 0,dB false,dI 0,dI 0,dI 0,dI 0,dI 0,dI 0, .v (.string ⟨#[]⟩), .v (.slice none 0 0), .v (.slice none 0 0)])) (Ac (A1 (r:= [.d (dI 0), .d (dI 0), .d (dI t.count), .d (dI t.unit), .d (dI t.g0), .d (dI t.g1), .d (dI t.g2), .d (dI t.g3), .d (dI t.g4), .d (dI t.g5), .d (dI n), .d (dI 0), .d (dB false), .d (dI 0), .d (dI 0), .d (dI 0), .d (dI 0), .d (dI 0), .d (dI 0), .d (.v (.string ⟨#[]⟩)), .d (.v (.slice none 0 0)), .d (.v (.slice none 0 0))]) R F8 C2 (by kernel_rfl))) (by kernel_rfl))<|?_
 refine XL.call1 R R (Ap6 t n) R<|zm R R<|zp (Ar R R R)<|zp (Ar R R R)<|za R R<|za R R<|zn<|zs<|zr<|zm R R<|zp (Az R R R)<|zn<|?_
 refine zd R (fun c41=> ?_) (fun c41=> ?_)
 refine zr<|?_
 refine zp (Ae (s':= .d (.agg [dI 0,dI 0,dI 0,dI 0,dI 0,dI 0,dI 0,dI 0,dI 0,dI 0,dI 0,dI 0,dB false,dI 0,dI 0,dI 0,dI 0,dI 0,dI 0, .v (.string ⟨#[]⟩), .v (.slice none 0 0), .v (.slice none 0 0)])) (Ac (A1 (r:= [.d (dI 0), .d (dI 0), .d (dI 0), .d (dI 0), .d (dI 0), .d (dI 0), .d (dI 0), .d (dI 0), .d (dI 0), .d (dI 0), .d (dI 0), .d (dI 0), .d (dB false), .d (dI 0), .d (dI 0), .d (dI 0), .d (dI 0), .d (dI 0), .d (dI 0), .d (.v (.string ⟨#[]⟩)), .d (.v (.slice none 0 0)), .d (.v (.slice none 0 0))]) R F8 C2 (by kernel_rfl))) (by kernel_rfl))<|?_
 refine zm R R<|XL.step R (Af (l':= [.d (dI 0), .d (dI 0), .d (dI 0), .d (dI 0), .d (dI 0), .d (dI 0), .d (dI 0), .d (dI 0), .d (dI 0), .d (dI 0), .d (dI 0), .d (dI 0), .d (dB false), .d (dI 0), .d (dI 0), .d (dI 0), .d (dI 0), .d (dI 0), .d (dI 0), .d (.v (.string ⟨#[]⟩)), .d (.v (.slice none 0 0)), .d (.v (.slice none 0 0))]) R R R R Do R lb (by kernel_rfl))<|za R R<|zn<|zt<|?_
 exact Ax R (RV.sub (RV.cells R R R Bn lb R) (.agg (.cons (.same R) (.cons (.same R) (.cons (.same R) (.cons (.same R) (.cons (.same R) (.cons (.same R) (.cons (.same R) (.cons (.same R) (.cons (.same R) (.cons (.same R) (.cons (.same R) (.cons (.same R) (.cons (.same R) (.cons (.same R) (.cons (.same R) (.cons (.same R) (.cons (.same R) (.cons (.same R) (.cons (.same R) (.cons (.same R) (.cons (.nil 3) (.cons (.nil 2) (.nil))))))))))))))))))))))))) (RV.tmp R R) (by first|exact H9 c30 c41 hgo hx hgv hy (by first|rw [Kv hns c105 (by omega)]|rw [Fq hns c105 (by omega)]|rw [Ku hns c105 (by omega)]|rw [Fp hns c105 (by omega)]) (by omega)|exact prE (F3 (by assumption)).2.symm (F3 (by assumption)).1.symm|exact prE (Fs c30 (by assumption)).2.symm (Fs c30 (by assumption)).1.symm|(rw [show m.tempi.take i=m.tempi from List.take_of_length_le (by omega)];exact Gw (by first|exact F6 c41 (by omega)|exact F5 c41 (by omega)) c30 c41 (by rw [←hgo,List.drop_of_length_le (by omega)];rfl)))
 refine zi<|zr<|zp (Ae (s':= .d (.agg (Ms.c m))) (Ac (Ad R R Bn R lb)) (by kernel_rfl))<|XL.callS R R (Apk _ hR hs) R<|?_
 refine XL.step R (Ao 11 (l:= [.d (dI 0), .d (dI 0), .d (dI 0), .d (dI 0), .d (dI 0), .d (dI 0), .d (dI 0), .d (dI 0), .d (dI 0), .d (dI 0), .d (dI 0), .d (dI 0), .d (dB false), .d (dI 0), .d (dI 0), .d (dI 0), .d (dI 0), .d (dI 0), .d (dI 0), .d (.v (.string ⟨#[]⟩)), .d (.v (.slice none 0 0)), .d (.v (.slice none 0 0))]) R C2 (by kernel_rfl))<|?_
 refine XL.step R (Af (l':= [.d (dI m.h.site), .d (dI m.h.num), .d (dI m.h.m.count), .d (dI m.h.m.unit), .d (dI m.h.m.g0), .d (dI m.h.m.g1), .d (dI m.h.m.g2), .d (dI m.h.m.g3), .d (dI m.h.m.g4), .d (dI m.h.m.g5), .d (dI m.h.len), .d (dI m.h.fifths), .d (dB m.h.start), .d (dI m.h.fin), .d (dI m.h.ends), .d (dI m.h.jump), .d (dI m.h.labels), .d (dI m.h.swing), .d (dI m.h.brk), .d (.v (.string ⟨m.h.reh.toArray⟩)), .own 7401, .own 7402]) R R R R Do R lb (by kernel_rfl))<|?_
 refine zn<|zs<|Hm (i:=7401) R<|?_
 have hO:=T3 c30
 have hP:=T3 (t:=t) (n:=n) c41
 refine Cj 9 [12,13] (by kernel_rfl) (by kernel_rfl) (by kernel_rfl) (by kernel_rfl) (by decide)<|yp (Aa R R F4)<|yp (Ae (s':= .d (.agg (Me.c m.h.m))) (Ac (Ad R R A8 R lb)) (by kernel_rfl))<|ym R R<|ChK.cons R (CStep.call R (Aff m.h.m m.h.len c30) R)<|yp (Ae (s':= .d (.agg (Me.c t))) (Ac (Ad R R A8 R lb)) (by kernel_rfl))<|ym R R<|?_
 refine ChK.cons R (CStep.call R (Aff t n c41) R)<|ChK.cons R (CStep.allocN 12 (l:= [.d (dI 0), .d (dI 0), .d (dI 0), .d (dI 0), .d (dI 0), .d (dI 0), .d (dI 0), .d (dI 0), .d (dI 0), .d (dI 0)]) R Fx R R)<|ChK.cons R (CStep.allocN 13 (l:= [.d (dI 0), .d (dI 0), .d (dI 0), .d (dI 0), .d (dI 0), .d (dI 0), .d (dI 0), .d (dI 0), .d (dI 0), .d (dI 0)]) R Fx R R)<|?_
 refine ChK.nil ⟨by kernel_rfl, ?_⟩
 refine XL.step R (Af (l':= [.d (dI (plS m.h.m m.h.len).m.count), .d (dI (plS m.h.m m.h.len).m.unit), .d (dI (plS m.h.m m.h.len).m.g0), .d (dI (plS m.h.m m.h.len).m.g1), .d (dI (plS m.h.m m.h.len).m.g2), .d (dI (plS m.h.m m.h.len).m.g3), .d (dI (plS m.h.m m.h.len).m.g4), .d (dI (plS m.h.m m.h.len).m.g5), .d (dI (plS m.h.m m.h.len).off), .d (dI (plS m.h.m m.h.len).len)]) R R R R Kf R lb (by kernel_rfl))<|?_
 refine XL.step R (Af (l':= [.d (dI (plS t n).m.count), .d (dI (plS t n).m.unit), .d (dI (plS t n).m.g0), .d (dI (plS t n).m.g1), .d (dI (plS t n).m.g2), .d (dI (plS t n).m.g3), .d (dI (plS t n).m.g4), .d (dI (plS t n).m.g5), .d (dI (plS t n).off), .d (dI (plS t n).len)]) R R R R Kf R lb (by kernel_rfl))<|zn<|zs<|zr<|za R R<|zn<|Ah<|?_
 refine A0 (α:=Nat) (fun k=>k≤m.cells.length∧G5 (plS m.h.m m.h.len) (plS t n) (m.cells.drop k)=G5 (plS m.h.m m.h.len) (plS t n) m.cells) (fun k=>mkF [(4, .ptr 4 0 0),(6, .ptr 6 0 0),(8, .d (dI (plS m.h.m m.h.len).len)),(10, .d (dI (plS t n).len)),(11, .ptr 11 0 0),(12, .ptr 12 0 0),(13, .ptr 13 0 0),(14, .d (dI k))]) (fun k=>mkH [(4, .box ((Me.c t).map S.d)),(6, .box [.d (dI 0), .d (dI 0), .d (dI 0), .d (dI 0), .d (dI 0), .d (dI 0), .d (dI 0), .d (dI 0), .d (dI 0), .d (dI 0), .d (dI 0), .d (dI 0), .d (dB false), .d (dI 0), .d (dI 0), .d (dI 0), .d (dI 0), .d (dI 0), .d (dI 0), .d (.v (.string ⟨#[]⟩)), .d (.v (.slice none 0 0)), .d (.v (.slice none 0 0))]),(11, .box [.d (dI m.h.site), .d (dI m.h.num), .d (dI m.h.m.count), .d (dI m.h.m.unit), .d (dI m.h.m.g0), .d (dI m.h.m.g1), .d (dI m.h.m.g2), .d (dI m.h.m.g3), .d (dI m.h.m.g4), .d (dI m.h.m.g5), .d (dI m.h.len), .d (dI m.h.fifths), .d (dB m.h.start), .d (dI m.h.fin), .d (dI m.h.ends), .d (dI m.h.jump), .d (dI m.h.labels), .d (dI m.h.swing), .d (dI m.h.brk), .d (.v (.string ⟨m.h.reh.toArray⟩)), .d (.sl 3 (m.tempi.map Tm.c)), .own 7402]),(12, .box ((Pl.c (plS m.h.m m.h.len)).map S.d)),(13, .box ((Pl.c (plS t n)).map S.d)),(7402, .tree 78 2 [] (mix Ce.u Ce.t ((m.cells.take k).map (Bo (plS m.h.m m.h.len) (plS t n))) (m.cells.drop k)))]) (fun k=>m.cells.length - k) (0) (⟨Nat.zero_le _,R⟩) ?_ ?_ ?_
 exact fz ⟨sr,sr,sr,sr,sr,sr,sr,sr,trivial⟩
 exact gz ⟨R,R,R,R,R,R,trivial⟩
 intro k hk0
 obtain ⟨hk,hgo⟩:=hk0
 refine zs<|zr<|zm R R<|zp (Aa R R B9)<|zp (Ab R R Ep R R)<|zp (Ae (s':= .d (dI m.cells.length)) (Pn R R R Tryz.underlying28) (sI (by rw [Afk,List.length_map,List.length_take,List.length_drop];omega)))<|zp (As R R R)<|zn<|?_
 refine zd R (fun c57=> ?_) (fun c57=> ?_)
 have hkl:k<m.cells.length:=by omega
 obtain ⟨x,hx⟩:=Aw hkl
 refine zi<|zs<|Ah<|zs<|zs<|?_
 have hcf:=hF.c x (List.mem_of_getElem? hx)
 have hvl:=hcf.voices
 have hcfl:=hcf.clefs
 have hCE:=Ata hE hx
 refine Yb (i:=7402) (j:=7502) (k:=k) (m:=1) (l':=(mix Ce.u Ce.t ((m.cells.take k).map (Bo (plS m.h.m m.h.len) (plS t n))) (m.cells.drop k)).set k [.row 84 2 (((x.clefs).map Cf.c).map (·.map T.d)), .own 7502]) [] (x.voices.map Vo.t) R R R (Dj hx) R (Vos.t_in [] _) (R)<|?_
 refine Pb (i:=7402) (j:=7501) (k:=k) (m:=0) (l':=(mix Ce.u Ce.t ((m.cells.take k).map (Bo (plS m.h.m m.h.len) (plS t n))) (m.cells.drop k)).set k [.own 7501, .own 7502]) ((x.clefs).map Cf.c) R R R (Ck (Dj hx)) R (List.set_set ..)<|Af5 (i:=7502) R (Vos.t_fz _) (Vos.t_D _)<|Hm (i:=7501) R<|?_
 refine Sr (i:=7402) (l':=(mix Ce.u Ce.t ((m.cells.take k).map (Bo (plS m.h.m m.h.len) (plS t n))) (m.cells.drop k)).set k [.d (.sl 2 (x.clefs.map Cf.c)), .own 7502]) [7502] R (Nj (E5 [] _ _) R) (D5 (E5 [] _ _) (Gd (R) (R)) _)<|Ag (by kernel_rfl)<|za R R<|zn<|Ah<|?_
 refine A0 (α:=Nat) (fun j=>j≤x.voices.length∧Gt (plS m.h.m m.h.len) (plS t n) (x.voices.drop j)=Gt (plS m.h.m m.h.len) (plS t n) x.voices) (fun j=>mkF [(4, .ptr 4 0 0),(6, .ptr 6 0 0),(8, .d (dI (plS m.h.m m.h.len).len)),(10, .d (dI (plS t n).len)),(11, .ptr 11 0 0),(12, .ptr 12 0 0),(13, .ptr 13 0 0),(14, .d (dI k)),(15, .d (dI j))]) (fun j=>mkH [(4, .box ((Me.c t).map S.d)),(6, .box [.d (dI 0), .d (dI 0), .d (dI 0), .d (dI 0), .d (dI 0), .d (dI 0), .d (dI 0), .d (dI 0), .d (dI 0), .d (dI 0), .d (dI 0), .d (dI 0), .d (dB false), .d (dI 0), .d (dI 0), .d (dI 0), .d (dI 0), .d (dI 0), .d (dI 0), .d (.v (.string ⟨#[]⟩)), .d (.v (.slice none 0 0)), .d (.v (.slice none 0 0))]),(11, .box [.d (dI m.h.site), .d (dI m.h.num), .d (dI m.h.m.count), .d (dI m.h.m.unit), .d (dI m.h.m.g0), .d (dI m.h.m.g1), .d (dI m.h.m.g2), .d (dI m.h.m.g3), .d (dI m.h.m.g4), .d (dI m.h.m.g5), .d (dI m.h.len), .d (dI m.h.fifths), .d (dB m.h.start), .d (dI m.h.fin), .d (dI m.h.ends), .d (dI m.h.jump), .d (dI m.h.labels), .d (dI m.h.swing), .d (dI m.h.brk), .d (.v (.string ⟨m.h.reh.toArray⟩)), .d (.sl 3 (m.tempi.map Tm.c)), .own 7402]),(12, .box ((Pl.c (plS m.h.m m.h.len)).map S.d)),(13, .box ((Pl.c (plS t n)).map S.d)),(7402, .tree 78 2 [7502] ((mix Ce.u Ce.t ((m.cells.take k).map (Bo (plS m.h.m m.h.len) (plS t n))) (m.cells.drop k)).set k [.d (.sl 2 (x.clefs.map Cf.c)), .own 7502])),(7502, .row 82 2 ((G3 (fun v=>(De v (plS m.h.m m.h.len) (plS t n)).1) x.voices j).map Vo.c))]) (fun j=>x.voices.length - j) (0) (⟨Nat.zero_le _,R⟩) ?_ ?_ ?_
 exact fz ⟨sr,sr,sr,sr,sr,sr,sr,sr,sr,trivial⟩
 exact gz ⟨R,R,R,R,R,R,Kh (Mj _ _),trivial⟩
 intro j hk2
 obtain ⟨hj,hgv⟩:=hk2
 have hml:=Ly (fun v=>(De v (plS m.h.m m.h.len) (plS t n)).1) x.voices j
 refine zs<|zr<|zm R R<|zp (Aa R R B9)<|zp (Ab R R Ep R R)<|zm R R<|zp (Ee R R R (R) R Fm (H8 (Hj hkl)))<|zp (Aa R R C8)<|zp (Ae (s':= .own 7502) (Dk R R Fy R (Ck (Dj hx)) R) R)<|zp (B4 R R R Tryz.underlying76)<|zp (As R R R)<|zn<|?_
 refine zd R (fun c68=> ?_) (fun c68=> ?_)
 have hjl:j<x.voices.length:=by omega
 obtain ⟨y,hy⟩:=Aw hjl
 have hg:=Od (f:=(fun v=>(De v (plS m.h.m m.h.len) (plS t n)).1)) hy
 refine zi<|zs<|Ah<|zs<|?_
 have hfv:=hcf.v y (List.mem_of_getElem? hy)
 have hevl:=hfv.evs
 have hEv:=hCE y (List.mem_of_getElem? hy)
 refine Ag (by kernel_rfl)<|zp (Aa R R B9)<|zp (Ab R R Ep R R)<|zm R R<|zp (Ee R R R (R) R Fm (H8 (Hj hkl)))<|zp (Aa R R C8)<|zp (Ae (s':= .own 7502) (Dk R R Fy R (Ck (Dj hx)) R) R)<|zm R R<|zp (Cd R R R (R) R Je (by first|omega|(rw [List.length_map];omega)))<|?_
 refine zp (Ae (s':= .d (.agg (Vo.c y))) (Ei R R Aq R (Cv (hg)) lb) (by kernel_rfl))<|XL.step R (Ao 16 (l:= [.d (.v (.slice none 0 0)), .d (.v (.slice none 0 0))]) R Bf (by kernel_rfl))<|XL.step R (Af (l':= [.d (.sl 13 (y.evs.map Ev.c)), .d (.sl 4 (y.tups.map Tp.c))]) R R R R Bm R lb (by kernel_rfl))<|zn<|zs<|zr<|zp (Aa R R Bk)<|?_
 refine zp (Ab R R Cz R R)<|XL.len R R R Tryz.underlying79 fun hl82=>zp (A7 R R R)<|zm R R<|?_
 refine XL.dec 84 R (fun g84=> ?_) (fun g84=> ?_)
 refine zk 3 R<|zq R R R<|zm R R<|zk 12 R<|zq R R R<|zn<|Ay (by kernel_rfl) R<|Au<|Ag (by kernel_rfl)<|zm R R<|zp (Ak R R R (by omega) (by omega))<|za R R<|zn<|?_
 exact Al (j+1) (⟨by omega,by rw [←I2 hy (by rw [Pv (by unfold Vo.same;first|omega|(rw [hwh];omega))])];exact hgv⟩) (by omega) (fz ⟨sr,sr,sr,sr,sr,sr,sr,sr,sr,trivial⟩) (gz ⟨rfl,rfl,rfl,rfl,rfl,rfl,Kh (by rw [Gf hy,show (De y (plS m.h.m m.h.len) (plS t n)).1=y by rw [Pv (by unfold Vo.same;first|omega|(rw [hwh];omega))]];exact (set_same hg).symm),trivial⟩)
 refine zm R R<|zm R R<|zp (A7 R R R)<|zq R R R<|zm R R<|?_
 refine XL.dec 89 R (fun g89=> ?_) (fun g89=> ?_)
 refine zk 12 R<|zq R R R<|zn<|Ay (by kernel_rfl) R<|Au<|Ag (by kernel_rfl)<|zm R R<|zp (Ak R R R (by omega) (by omega))<|za R R<|zn<|?_
 exact Al (j+1) (⟨by omega,by rw [←I2 hy (by rw [Pv (by unfold Vo.same;first|omega|(rw [hwh];omega))])];exact hgv⟩) (by omega) (fz ⟨sr,sr,sr,sr,sr,sr,sr,sr,sr,trivial⟩) (gz ⟨rfl,rfl,rfl,rfl,rfl,rfl,Kh (by rw [Gf hy,show (De y (plS m.h.m m.h.len) (plS t n)).1=y by rw [Pv (by unfold Vo.same;first|omega|(rw [hwh];omega))]];exact (set_same hg).symm),trivial⟩)
 refine zp (Aa R R Bk)<|zp (Ab R R Cz R R)<|XL.len R R R Tryz.underlying79 fun hl92=>zp (A7 R R R)<|zm R R<|?_
 refine XL.dec 94 R (fun g94=> ?_) (fun g94=> ?_)
 obtain ⟨e0,he0⟩:∃e,y.evs[0]? =some e:=Aw (by omega)
 have hwh:=Jy he0
 refine zp (Aa R R Bk)<|zp (Ab R R Cz R R)<|zp (Ap (k:=0) R R R G7 (he0))<|zp (Ff R R Df)<|zp (Ba R R Ai)<|zp (A7 R R R)<|zq R R R<|zq R R R<|zn<|?_
 refine zd R (fun c102=> ?_) (fun c102=> ?_)
 refine Au<|Ag (by kernel_rfl)<|zm R R<|zp (Ak R R R (by omega) (by omega))<|za R R<|zn<|?_
 exact Al (j+1) (⟨by omega,by rw [←I2 hy (by rw [Pv (by unfold Vo.same;first|omega|(rw [hwh];omega))])];exact hgv⟩) (by omega) (fz ⟨sr,sr,sr,sr,sr,sr,sr,sr,sr,trivial⟩) (gz ⟨rfl,rfl,rfl,rfl,rfl,rfl,Kh (by rw [Gf hy,show (De y (plS m.h.m m.h.len) (plS t n)).1=y by rw [Pv (by unfold Vo.same;first|omega|(rw [hwh];omega))]];exact (set_same hg).symm),trivial⟩)
 refine zi<|zs<|zs<|?_
 have hns:¬y.same (plS m.h.m m.h.len) (plS t n):=by first|(unfold Vo.same;rw [hwh];omega)|(unfold Vo.same;omega)
 have hrl:=N8 (plS t n).m ((plS t n).off+(plS m.h.m m.h.len).len) ((plS t n).off+(plS t n).len)
 refine Ag (by kernel_rfl)<|zm R R<|zm R R<|zp (As R R R)<|zn<|?_
 refine zd R (fun c105=> ?_) (fun c105=> ?_)
 refine Ag (by kernel_rfl)<|zp (Ae (s':= .d (.agg (Vo.c y))) (Ac (Ad R R Aq R lb)) (by kernel_rfl))<|zp (Ae (s':= .d (.agg (Pl.c (plS m.h.m m.h.len)))) (Ac (Ad R R Fv R lb)) (by kernel_rfl))<|zm R R<|XL.call1 R R (U3 _ _ _ _ (by assumption) (by assumption)) R<|zm R R<|zp (Ar R R R)<|zp (Ar R R R)<|?_
 refine XL.step R (Af (l':= [.d (.sl 13 (((Dv y (plS m.h.m m.h.len) 0 ((plS t n).len)).1).evs.map Ev.c)), .d (.sl 4 (((Dv y (plS m.h.m m.h.len) 0 ((plS t n).len)).1).tups.map Tp.c))]) R R R R Bm R lb (by kernel_rfl))<|za R R<|zn<|zs<|zr<|zm R R<|zp (A7 R R R)<|zn<|?_
 refine zd R (fun c134=> ?_) (fun c134=> ?_)
 have hEc:=(P5 (v:=y) (p:=(plS m.h.m m.h.len)) (a:=0) (b:=(plS t n).len) (by omega) hfv).1
 refine Ag (by kernel_rfl)<|zp (Ae (s':= .d (.agg (Vo.c (Dv y (plS m.h.m m.h.len) 0 ((plS t n).len)).1))) (Ac (Ad R R Aq R lb)) (by kernel_rfl))<|zm R R<|XL.call1 R R (H6 _ _ (by assumption)) R<|za R R<|zn<|zs<|zr<|zm R R<|zp (Az R R R)<|zn<|?_
 refine zd R (fun c139=> ?_) (fun c139=> ?_)
 refine zr<|?_
 refine zp (Ae (s':= .d (.agg [dI 0,dI 0,dI 0,dI 0,dI 0,dI 0,dI 0,dI 0,dI 0,dI 0,dI 0,dI 0,dB false,dI 0,dI 0,dI 0,dI 0,dI 0,dI 0, .v (.string ⟨#[]⟩), .v (.slice none 0 0), .v (.slice none 0 0)])) (Ac (A1 (r:= [.d (dI 0), .d (dI 0), .d (dI 0), .d (dI 0), .d (dI 0), .d (dI 0), .d (dI 0), .d (dI 0), .d (dI 0), .d (dI 0), .d (dI 0), .d (dI 0), .d (dB false), .d (dI 0), .d (dI 0), .d (dI 0), .d (dI 0), .d (dI 0), .d (dI 0), .d (.v (.string ⟨#[]⟩)), .d (.v (.slice none 0 0)), .d (.v (.slice none 0 0))]) R F8 C2 (by kernel_rfl))) (by kernel_rfl))<|?_
 refine zm R R<|XL.step R (Af (l':= [.d (dI 0), .d (dI 0), .d (dI 0), .d (dI 0), .d (dI 0), .d (dI 0), .d (dI 0), .d (dI 0), .d (dI 0), .d (dI 0), .d (dI 0), .d (dI 0), .d (dB false), .d (dI 0), .d (dI 0), .d (dI 0), .d (dI 0), .d (dI 0), .d (dI 0), .d (.v (.string ⟨#[]⟩)), .d (.v (.slice none 0 0)), .d (.v (.slice none 0 0))]) R R R R Do R lb (by kernel_rfl))<|za R R<|zn<|zt<|?_
 exact Ax R (RV.sub (RV.cells R R R Bn lb R) (.agg (.cons (.same R) (.cons (.same R) (.cons (.same R) (.cons (.same R) (.cons (.same R) (.cons (.same R) (.cons (.same R) (.cons (.same R) (.cons (.same R) (.cons (.same R) (.cons (.same R) (.cons (.same R) (.cons (.same R) (.cons (.same R) (.cons (.same R) (.cons (.same R) (.cons (.same R) (.cons (.same R) (.cons (.same R) (.cons (.same R) (.cons (.nil 3) (.cons (.nil 2) (.nil))))))))))))))))))))))))) (RV.tmp R R) (by first|exact H9 c30 c41 hgo hx hgv hy (by first|rw [Kv hns c105 (by omega)]|rw [Fq hns c105 (by omega)]|rw [Ku hns c105 (by omega)]|rw [Fp hns c105 (by omega)]) (by omega)|exact prE (F3 (by assumption)).2.symm (F3 (by assumption)).1.symm|exact prE (Fs c30 (by assumption)).2.symm (Fs c30 (by assumption)).1.symm|(rw [show m.tempi.take i=m.tempi from List.take_of_length_le (by omega)];exact Gw (by first|exact F6 c41 (by omega)|exact F5 c41 (by omega)) c30 c41 (by rw [←hgo,List.drop_of_length_le (by omega)];rfl)))
 refine zi<|Cj 8 [] (by kernel_rfl) (by kernel_rfl) (by kernel_rfl) (by kernel_rfl) (by decide)<|yp (Aa R R B9)<|yp (Ab R R Ep R R)<|ym R R<|yp (Ee R R R (R) R Fm (H8 (Hj hkl)))<|yp (Aa R R C8)<|yp (Ae (s':= .own 7502) (Dk R R Fy R (Ck (Dj hx)) R) R)<|ym R R<|?_
 refine yp (Ae (s':= .d (.agg (Vo.c (Dv y (plS m.h.m m.h.len) 0 ((plS t n).len)).1))) (Ac (Ad R R Aq R lb)) (by kernel_rfl))<|?_
 refine ChK.nil ⟨by kernel_rfl, ?_⟩
 refine zp (Cd R R R (R) R Je (by first|omega|(rw [List.length_map];omega)))<|XL.step R (Dw R R R (Cv hg) R R Bm R lb)<|zn<|Ag (by kernel_rfl)<|zm R R<|zp (Ak R R R (by omega) (by omega))<|za R R<|zn<|?_
 exact Al (j+1) (⟨by omega,by rw [←I2 hy (by first|(rw [Fq hns c105 (by omega)];omega)|(rw [Fp hns c105 (by omega)];omega))];exact hgv⟩) (by omega) (fz ⟨sr,sr,sr,sr,sr,sr,sr,sr,sr,trivial⟩) (gz ⟨rfl,rfl,rfl,rfl,rfl,rfl,L8 (a:=(De y (plS m.h.m m.h.len) (plS t n)).1) (by first|(rw [Fq hns c105 (by omega)];done)|(rw [Fp hns c105 (by omega)];done)|(rw [Fq hns c105 (by omega)];rfl)|(rw [Fp hns c105 (by omega)];rfl)) (Gf hy),trivial⟩)
 refine zi<|zs<|zr<|zm R R<|zp (Az R R R)<|zn<|?_
 refine zd R (fun c139=> ?_) (fun c139=> ?_)
 refine zr<|?_
 refine zp (Ae (s':= .d (.agg [dI 0,dI 0,dI 0,dI 0,dI 0,dI 0,dI 0,dI 0,dI 0,dI 0,dI 0,dI 0,dB false,dI 0,dI 0,dI 0,dI 0,dI 0,dI 0, .v (.string ⟨#[]⟩), .v (.slice none 0 0), .v (.slice none 0 0)])) (Ac (A1 (r:= [.d (dI 0), .d (dI 0), .d (dI 0), .d (dI 0), .d (dI 0), .d (dI 0), .d (dI 0), .d (dI 0), .d (dI 0), .d (dI 0), .d (dI 0), .d (dI 0), .d (dB false), .d (dI 0), .d (dI 0), .d (dI 0), .d (dI 0), .d (dI 0), .d (dI 0), .d (.v (.string ⟨#[]⟩)), .d (.v (.slice none 0 0)), .d (.v (.slice none 0 0))]) R F8 C2 (by kernel_rfl))) (by kernel_rfl))<|?_
 refine zm R R<|XL.step R (Af (l':= [.d (dI 0), .d (dI 0), .d (dI 0), .d (dI 0), .d (dI 0), .d (dI 0), .d (dI 0), .d (dI 0), .d (dI 0), .d (dI 0), .d (dI 0), .d (dI 0), .d (dB false), .d (dI 0), .d (dI 0), .d (dI 0), .d (dI 0), .d (dI 0), .d (dI 0), .d (.v (.string ⟨#[]⟩)), .d (.v (.slice none 0 0)), .d (.v (.slice none 0 0))]) R R R R Do R lb (by kernel_rfl))<|za R R<|zn<|zt<|?_
 exact Ax R (RV.sub (RV.cells R R R Bn lb R) (.agg (.cons (.same R) (.cons (.same R) (.cons (.same R) (.cons (.same R) (.cons (.same R) (.cons (.same R) (.cons (.same R) (.cons (.same R) (.cons (.same R) (.cons (.same R) (.cons (.same R) (.cons (.same R) (.cons (.same R) (.cons (.same R) (.cons (.same R) (.cons (.same R) (.cons (.same R) (.cons (.same R) (.cons (.same R) (.cons (.same R) (.cons (.nil 3) (.cons (.nil 2) (.nil))))))))))))))))))))))))) (RV.tmp R R) (by first|exact H9 c30 c41 hgo hx hgv hy (by first|rw [Kv hns c105 (by omega)]|rw [Fq hns c105 (by omega)]|rw [Ku hns c105 (by omega)]|rw [Fp hns c105 (by omega)]) (by omega)|exact prE (F3 (by assumption)).2.symm (F3 (by assumption)).1.symm|exact prE (Fs c30 (by assumption)).2.symm (Fs c30 (by assumption)).1.symm|(rw [show m.tempi.take i=m.tempi from List.take_of_length_le (by omega)];exact Gw (by first|exact F6 c41 (by omega)|exact F5 c41 (by omega)) c30 c41 (by rw [←hgo,List.drop_of_length_le (by omega)];rfl)))
 exfalso;omega
 refine zr<|za R R<|znr<|zp (Ae (s':= .d (.agg (Me.c t))) (Ac (Ad R R A8 R lb)) (by kernel_rfl))<|zp (Aa R R E0)<|zp (Ab R R Ai R R)<|zm R R<|zp (Ak R R R (by omega) (by omega))<|zp (Aa R R E0)<|zp (Ab R R Ai R R)<|zm R R<|zp (Ak R R R (by omega) (by omega))<|XL.call1 R R (Afb t n _ _ c41) R<|zm R R<|?_
 refine zp (Ar R R R)<|zp (Ar R R R)<|za R R<|za R R<|zng<|XL.step R (Bj 126 R Tryz.underlying79 Cy Ca R R (by omega) (by omega))<|zp (Aa R R Bk)<|zp (Ab R R Cz R R)<|XL.step R (A3 R Fb (.own R) (Src.sl (by omega)) (by unfold maxLen;simp;omega) (by simp;omega))<|XL.rowq (i:=126) (l':=(y.evs).map Ev.c) R (by rfl)<|zm R R<|?_
 refine XL.step R (A3 R Fb (.own R) (Src.sl (by omega)) (by unfold maxLen;simp;omega) (by simp;omega))<|XL.rowq (i:=126) (l':=(y.evs++(G2 (plS t n).m ((plS t n).off+(plS m.h.m m.h.len).len) ((plS t n).off+(plS t n).len))).map Ev.c) R (Mw)<|zp (Aa R R Bk)<|?_
 refine XL.step R (Af (l':= [.own 126, .d (.sl 4 (y.tups.map Tp.c))]) R R R R N2 R lb (by kernel_rfl))<|zn<|zs<|zs<|Hm (i:=126) R<|Ag (by kernel_rfl)<|zm R R<|zp (A7 R R R)<|zn<|?_
 refine zd R (fun c134=> ?_) (fun c134=> ?_)
 have hEc:=R4 hEv (N9 (plS t n).m ((plS t n).off+(plS m.h.m m.h.len).len) ((plS t n).off+(plS t n).len))
 refine Ag (by kernel_rfl)<|zp (Ae (s':= .d (.agg (Vo.c (Jo y (plS m.h.m m.h.len) (plS t n))))) (Ac (Ad R R Aq R lb)) (by kernel_rfl))<|zm R R<|XL.call1 R R (H6 _ _ (by assumption)) R<|za R R<|zn<|zs<|zr<|zm R R<|zp (Az R R R)<|zn<|?_
 refine zd R (fun c139=> ?_) (fun c139=> ?_)
 refine zr<|?_
 refine zp (Ae (s':= .d (.agg [dI 0,dI 0,dI 0,dI 0,dI 0,dI 0,dI 0,dI 0,dI 0,dI 0,dI 0,dI 0,dB false,dI 0,dI 0,dI 0,dI 0,dI 0,dI 0, .v (.string ⟨#[]⟩), .v (.slice none 0 0), .v (.slice none 0 0)])) (Ac (A1 (r:= [.d (dI 0), .d (dI 0), .d (dI 0), .d (dI 0), .d (dI 0), .d (dI 0), .d (dI 0), .d (dI 0), .d (dI 0), .d (dI 0), .d (dI 0), .d (dI 0), .d (dB false), .d (dI 0), .d (dI 0), .d (dI 0), .d (dI 0), .d (dI 0), .d (dI 0), .d (.v (.string ⟨#[]⟩)), .d (.v (.slice none 0 0)), .d (.v (.slice none 0 0))]) R F8 C2 (by kernel_rfl))) (by kernel_rfl))<|?_
 refine zm R R<|XL.step R (Af (l':= [.d (dI 0), .d (dI 0), .d (dI 0), .d (dI 0), .d (dI 0), .d (dI 0), .d (dI 0), .d (dI 0), .d (dI 0), .d (dI 0), .d (dI 0), .d (dI 0), .d (dB false), .d (dI 0), .d (dI 0), .d (dI 0), .d (dI 0), .d (dI 0), .d (dI 0), .d (.v (.string ⟨#[]⟩)), .d (.v (.slice none 0 0)), .d (.v (.slice none 0 0))]) R R R R Do R lb (by kernel_rfl))<|za R R<|zn<|zt<|?_
 exact Ax R (RV.sub (RV.cells R R R Bn lb R) (.agg (.cons (.same R) (.cons (.same R) (.cons (.same R) (.cons (.same R) (.cons (.same R) (.cons (.same R) (.cons (.same R) (.cons (.same R) (.cons (.same R) (.cons (.same R) (.cons (.same R) (.cons (.same R) (.cons (.same R) (.cons (.same R) (.cons (.same R) (.cons (.same R) (.cons (.same R) (.cons (.same R) (.cons (.same R) (.cons (.same R) (.cons (.nil 3) (.cons (.nil 2) (.nil))))))))))))))))))))))))) (RV.tmp R R) (by first|exact H9 c30 c41 hgo hx hgv hy (by first|rw [Kv hns c105 (by omega)]|rw [Fq hns c105 (by omega)]|rw [Ku hns c105 (by omega)]|rw [Fp hns c105 (by omega)]) (by omega)|exact prE (F3 (by assumption)).2.symm (F3 (by assumption)).1.symm|exact prE (Fs c30 (by assumption)).2.symm (Fs c30 (by assumption)).1.symm|(rw [show m.tempi.take i=m.tempi from List.take_of_length_le (by omega)];exact Gw (by first|exact F6 c41 (by omega)|exact F5 c41 (by omega)) c30 c41 (by rw [←hgo,List.drop_of_length_le (by omega)];rfl)))
 refine zi<|Cj 8 [] (by kernel_rfl) (by kernel_rfl) (by kernel_rfl) (by kernel_rfl) (by decide)<|yp (Aa R R B9)<|yp (Ab R R Ep R R)<|ym R R<|yp (Ee R R R (R) R Fm (H8 (Hj hkl)))<|yp (Aa R R C8)<|yp (Ae (s':= .own 7502) (Dk R R Fy R (Ck (Dj hx)) R) R)<|ym R R<|?_
 refine yp (Ae (s':= .d (.agg (Vo.c (Jo y (plS m.h.m m.h.len) (plS t n))))) (Ac (Ad R R Aq R lb)) (by kernel_rfl))<|?_
 refine ChK.nil ⟨by kernel_rfl, ?_⟩
 refine zp (Cd R R R (R) R Je (by first|omega|(rw [List.length_map];omega)))<|XL.step R (Dw R R R (Cv hg) R R Bm R lb)<|zn<|Ag (by kernel_rfl)<|zm R R<|zp (Ak R R R (by omega) (by omega))<|za R R<|zn<|?_
 exact Al (j+1) (⟨by omega,by rw [←I2 hy (by first|(rw [Fq hns c105 (by omega)];omega)|(rw [Fp hns c105 (by omega)];omega))];exact hgv⟩) (by omega) (fz ⟨sr,sr,sr,sr,sr,sr,sr,sr,sr,trivial⟩) (gz ⟨rfl,rfl,rfl,rfl,rfl,rfl,L8 (a:=(De y (plS m.h.m m.h.len) (plS t n)).1) (by first|(rw [Fq hns c105 (by omega)];done)|(rw [Fp hns c105 (by omega)];done)|(rw [Fq hns c105 (by omega)];rfl)|(rw [Fp hns c105 (by omega)];rfl)) (Gf hy),trivial⟩)
 refine zi<|zs<|zr<|zm R R<|zp (Az R R R)<|zn<|?_
 refine zd R (fun c139=> ?_) (fun c139=> ?_)
 refine zr<|?_
 refine zp (Ae (s':= .d (.agg [dI 0,dI 0,dI 0,dI 0,dI 0,dI 0,dI 0,dI 0,dI 0,dI 0,dI 0,dI 0,dB false,dI 0,dI 0,dI 0,dI 0,dI 0,dI 0, .v (.string ⟨#[]⟩), .v (.slice none 0 0), .v (.slice none 0 0)])) (Ac (A1 (r:= [.d (dI 0), .d (dI 0), .d (dI 0), .d (dI 0), .d (dI 0), .d (dI 0), .d (dI 0), .d (dI 0), .d (dI 0), .d (dI 0), .d (dI 0), .d (dI 0), .d (dB false), .d (dI 0), .d (dI 0), .d (dI 0), .d (dI 0), .d (dI 0), .d (dI 0), .d (.v (.string ⟨#[]⟩)), .d (.v (.slice none 0 0)), .d (.v (.slice none 0 0))]) R F8 C2 (by kernel_rfl))) (by kernel_rfl))<|?_
 refine zm R R<|XL.step R (Af (l':= [.d (dI 0), .d (dI 0), .d (dI 0), .d (dI 0), .d (dI 0), .d (dI 0), .d (dI 0), .d (dI 0), .d (dI 0), .d (dI 0), .d (dI 0), .d (dI 0), .d (dB false), .d (dI 0), .d (dI 0), .d (dI 0), .d (dI 0), .d (dI 0), .d (dI 0), .d (.v (.string ⟨#[]⟩)), .d (.v (.slice none 0 0)), .d (.v (.slice none 0 0))]) R R R R Do R lb (by kernel_rfl))<|za R R<|zn<|zt<|?_
 exact Ax R (RV.sub (RV.cells R R R Bn lb R) (.agg (.cons (.same R) (.cons (.same R) (.cons (.same R) (.cons (.same R) (.cons (.same R) (.cons (.same R) (.cons (.same R) (.cons (.same R) (.cons (.same R) (.cons (.same R) (.cons (.same R) (.cons (.same R) (.cons (.same R) (.cons (.same R) (.cons (.same R) (.cons (.same R) (.cons (.same R) (.cons (.same R) (.cons (.same R) (.cons (.same R) (.cons (.nil 3) (.cons (.nil 2) (.nil))))))))))))))))))))))))) (RV.tmp R R) (by first|exact H9 c30 c41 hgo hx hgv hy (by first|rw [Kv hns c105 (by omega)]|rw [Fq hns c105 (by omega)]|rw [Ku hns c105 (by omega)]|rw [Fp hns c105 (by omega)]) (by omega)|exact prE (F3 (by assumption)).2.symm (F3 (by assumption)).1.symm|exact prE (Fs c30 (by assumption)).2.symm (Fs c30 (by assumption)).1.symm|(rw [show m.tempi.take i=m.tempi from List.take_of_length_le (by omega)];exact Gw (by first|exact F6 c41 (by omega)|exact F5 c41 (by omega)) c30 c41 (by rw [←hgo,List.drop_of_length_le (by omega)];rfl)))
 exfalso;omega
 refine zk 6 R<|zq R R R<|zq R R R<|zn<|A9 (by kernel_rfl) R<|zi<|zs<|zs<|?_
 have hns:¬y.same (plS m.h.m m.h.len) (plS t n):=by first|(unfold Vo.same;rw [hwh];omega)|(unfold Vo.same;omega)
 have hrl:=N8 (plS t n).m ((plS t n).off+(plS m.h.m m.h.len).len) ((plS t n).off+(plS t n).len)
 refine Ag (by kernel_rfl)<|zm R R<|zm R R<|zp (As R R R)<|zn<|?_
 refine zd R (fun c105=> ?_) (fun c105=> ?_)
 refine Ag (by kernel_rfl)<|zp (Ae (s':= .d (.agg (Vo.c y))) (Ac (Ad R R Aq R lb)) (by kernel_rfl))<|zp (Ae (s':= .d (.agg (Pl.c (plS m.h.m m.h.len)))) (Ac (Ad R R Fv R lb)) (by kernel_rfl))<|zm R R<|XL.call1 R R (U3 _ _ _ _ (by assumption) (by assumption)) R<|zm R R<|zp (Ar R R R)<|zp (Ar R R R)<|?_
 refine XL.step R (Af (l':= [.d (.sl 13 (((Dv y (plS m.h.m m.h.len) 0 ((plS t n).len)).1).evs.map Ev.c)), .d (.sl 4 (((Dv y (plS m.h.m m.h.len) 0 ((plS t n).len)).1).tups.map Tp.c))]) R R R R Bm R lb (by kernel_rfl))<|za R R<|zn<|zs<|zr<|zm R R<|zp (A7 R R R)<|zn<|?_
 refine zd R (fun c134=> ?_) (fun c134=> ?_)
 have hEc:=(P5 (v:=y) (p:=(plS m.h.m m.h.len)) (a:=0) (b:=(plS t n).len) (by omega) hfv).1
 refine Ag (by kernel_rfl)<|zp (Ae (s':= .d (.agg (Vo.c (Dv y (plS m.h.m m.h.len) 0 ((plS t n).len)).1))) (Ac (Ad R R Aq R lb)) (by kernel_rfl))<|zm R R<|XL.call1 R R (H6 _ _ (by assumption)) R<|za R R<|zn<|zs<|zr<|zm R R<|zp (Az R R R)<|zn<|?_
 refine zd R (fun c139=> ?_) (fun c139=> ?_)
 refine zr<|?_
 refine zp (Ae (s':= .d (.agg [dI 0,dI 0,dI 0,dI 0,dI 0,dI 0,dI 0,dI 0,dI 0,dI 0,dI 0,dI 0,dB false,dI 0,dI 0,dI 0,dI 0,dI 0,dI 0, .v (.string ⟨#[]⟩), .v (.slice none 0 0), .v (.slice none 0 0)])) (Ac (A1 (r:= [.d (dI 0), .d (dI 0), .d (dI 0), .d (dI 0), .d (dI 0), .d (dI 0), .d (dI 0), .d (dI 0), .d (dI 0), .d (dI 0), .d (dI 0), .d (dI 0), .d (dB false), .d (dI 0), .d (dI 0), .d (dI 0), .d (dI 0), .d (dI 0), .d (dI 0), .d (.v (.string ⟨#[]⟩)), .d (.v (.slice none 0 0)), .d (.v (.slice none 0 0))]) R F8 C2 (by kernel_rfl))) (by kernel_rfl))<|?_
 refine zm R R<|XL.step R (Af (l':= [.d (dI 0), .d (dI 0), .d (dI 0), .d (dI 0), .d (dI 0), .d (dI 0), .d (dI 0), .d (dI 0), .d (dI 0), .d (dI 0), .d (dI 0), .d (dI 0), .d (dB false), .d (dI 0), .d (dI 0), .d (dI 0), .d (dI 0), .d (dI 0), .d (dI 0), .d (.v (.string ⟨#[]⟩)), .d (.v (.slice none 0 0)), .d (.v (.slice none 0 0))]) R R R R Do R lb (by kernel_rfl))<|za R R<|zn<|zt<|?_
 exact Ax R (RV.sub (RV.cells R R R Bn lb R) (.agg (.cons (.same R) (.cons (.same R) (.cons (.same R) (.cons (.same R) (.cons (.same R) (.cons (.same R) (.cons (.same R) (.cons (.same R) (.cons (.same R) (.cons (.same R) (.cons (.same R) (.cons (.same R) (.cons (.same R) (.cons (.same R) (.cons (.same R) (.cons (.same R) (.cons (.same R) (.cons (.same R) (.cons (.same R) (.cons (.same R) (.cons (.nil 3) (.cons (.nil 2) (.nil))))))))))))))))))))))))) (RV.tmp R R) (by first|exact H9 c30 c41 hgo hx hgv hy (by first|rw [Kv hns c105 (by omega)]|rw [Fq hns c105 (by omega)]|rw [Ku hns c105 (by omega)]|rw [Fp hns c105 (by omega)]) (by omega)|exact prE (F3 (by assumption)).2.symm (F3 (by assumption)).1.symm|exact prE (Fs c30 (by assumption)).2.symm (Fs c30 (by assumption)).1.symm|(rw [show m.tempi.take i=m.tempi from List.take_of_length_le (by omega)];exact Gw (by first|exact F6 c41 (by omega)|exact F5 c41 (by omega)) c30 c41 (by rw [←hgo,List.drop_of_length_le (by omega)];rfl)))
 refine zi<|Cj 8 [] (by kernel_rfl) (by kernel_rfl) (by kernel_rfl) (by kernel_rfl) (by decide)<|yp (Aa R R B9)<|yp (Ab R R Ep R R)<|ym R R<|yp (Ee R R R (R) R Fm (H8 (Hj hkl)))<|yp (Aa R R C8)<|yp (Ae (s':= .own 7502) (Dk R R Fy R (Ck (Dj hx)) R) R)<|ym R R<|?_
 refine yp (Ae (s':= .d (.agg (Vo.c (Dv y (plS m.h.m m.h.len) 0 ((plS t n).len)).1))) (Ac (Ad R R Aq R lb)) (by kernel_rfl))<|?_
 refine ChK.nil ⟨by kernel_rfl, ?_⟩
 refine zp (Cd R R R (R) R Je (by first|omega|(rw [List.length_map];omega)))<|XL.step R (Dw R R R (Cv hg) R R Bm R lb)<|zn<|Ag (by kernel_rfl)<|zm R R<|zp (Ak R R R (by omega) (by omega))<|za R R<|zn<|?_
 exact Al (j+1) (⟨by omega,by rw [←I2 hy (by first|(rw [Fq hns c105 (by omega)];omega)|(rw [Fp hns c105 (by omega)];omega))];exact hgv⟩) (by omega) (fz ⟨sr,sr,sr,sr,sr,sr,sr,sr,sr,trivial⟩) (gz ⟨rfl,rfl,rfl,rfl,rfl,rfl,L8 (a:=(De y (plS m.h.m m.h.len) (plS t n)).1) (by first|(rw [Fq hns c105 (by omega)];done)|(rw [Fp hns c105 (by omega)];done)|(rw [Fq hns c105 (by omega)];rfl)|(rw [Fp hns c105 (by omega)];rfl)) (Gf hy),trivial⟩)
 refine zi<|zs<|zr<|zm R R<|zp (Az R R R)<|zn<|?_
 refine zd R (fun c139=> ?_) (fun c139=> ?_)
 refine zr<|?_
 refine zp (Ae (s':= .d (.agg [dI 0,dI 0,dI 0,dI 0,dI 0,dI 0,dI 0,dI 0,dI 0,dI 0,dI 0,dI 0,dB false,dI 0,dI 0,dI 0,dI 0,dI 0,dI 0, .v (.string ⟨#[]⟩), .v (.slice none 0 0), .v (.slice none 0 0)])) (Ac (A1 (r:= [.d (dI 0), .d (dI 0), .d (dI 0), .d (dI 0), .d (dI 0), .d (dI 0), .d (dI 0), .d (dI 0), .d (dI 0), .d (dI 0), .d (dI 0), .d (dI 0), .d (dB false), .d (dI 0), .d (dI 0), .d (dI 0), .d (dI 0), .d (dI 0), .d (dI 0), .d (.v (.string ⟨#[]⟩)), .d (.v (.slice none 0 0)), .d (.v (.slice none 0 0))]) R F8 C2 (by kernel_rfl))) (by kernel_rfl))<|?_
 refine zm R R<|XL.step R (Af (l':= [.d (dI 0), .d (dI 0), .d (dI 0), .d (dI 0), .d (dI 0), .d (dI 0), .d (dI 0), .d (dI 0), .d (dI 0), .d (dI 0), .d (dI 0), .d (dI 0), .d (dB false), .d (dI 0), .d (dI 0), .d (dI 0), .d (dI 0), .d (dI 0), .d (dI 0), .d (.v (.string ⟨#[]⟩)), .d (.v (.slice none 0 0)), .d (.v (.slice none 0 0))]) R R R R Do R lb (by kernel_rfl))<|za R R<|zn<|zt<|?_
 exact Ax R (RV.sub (RV.cells R R R Bn lb R) (.agg (.cons (.same R) (.cons (.same R) (.cons (.same R) (.cons (.same R) (.cons (.same R) (.cons (.same R) (.cons (.same R) (.cons (.same R) (.cons (.same R) (.cons (.same R) (.cons (.same R) (.cons (.same R) (.cons (.same R) (.cons (.same R) (.cons (.same R) (.cons (.same R) (.cons (.same R) (.cons (.same R) (.cons (.same R) (.cons (.same R) (.cons (.nil 3) (.cons (.nil 2) (.nil))))))))))))))))))))))))) (RV.tmp R R) (by first|exact H9 c30 c41 hgo hx hgv hy (by first|rw [Kv hns c105 (by omega)]|rw [Fq hns c105 (by omega)]|rw [Ku hns c105 (by omega)]|rw [Fp hns c105 (by omega)]) (by omega)|exact prE (F3 (by assumption)).2.symm (F3 (by assumption)).1.symm|exact prE (Fs c30 (by assumption)).2.symm (Fs c30 (by assumption)).1.symm|(rw [show m.tempi.take i=m.tempi from List.take_of_length_le (by omega)];exact Gw (by first|exact F6 c41 (by omega)|exact F5 c41 (by omega)) c30 c41 (by rw [←hgo,List.drop_of_length_le (by omega)];rfl)))
 exfalso;omega
 refine zr<|za R R<|znr<|zp (Ae (s':= .d (.agg (Me.c t))) (Ac (Ad R R A8 R lb)) (by kernel_rfl))<|zp (Aa R R E0)<|zp (Ab R R Ai R R)<|zm R R<|zp (Ak R R R (by omega) (by omega))<|zp (Aa R R E0)<|zp (Ab R R Ai R R)<|zm R R<|zp (Ak R R R (by omega) (by omega))<|XL.call1 R R (Afb t n _ _ c41) R<|zm R R<|?_
 refine zp (Ar R R R)<|zp (Ar R R R)<|za R R<|za R R<|zng<|XL.step R (Bj 126 R Tryz.underlying79 Cy Ca R R (by omega) (by omega))<|zp (Aa R R Bk)<|zp (Ab R R Cz R R)<|XL.step R (A3 R Fb (.own R) (Src.sl (by omega)) (by unfold maxLen;simp;omega) (by simp;omega))<|XL.rowq (i:=126) (l':=(y.evs).map Ev.c) R (by rfl)<|zm R R<|?_
 refine XL.step R (A3 R Fb (.own R) (Src.sl (by omega)) (by unfold maxLen;simp;omega) (by simp;omega))<|XL.rowq (i:=126) (l':=(y.evs++(G2 (plS t n).m ((plS t n).off+(plS m.h.m m.h.len).len) ((plS t n).off+(plS t n).len))).map Ev.c) R (Mw)<|zp (Aa R R Bk)<|?_
 refine XL.step R (Af (l':= [.own 126, .d (.sl 4 (y.tups.map Tp.c))]) R R R R N2 R lb (by kernel_rfl))<|zn<|zs<|zs<|Hm (i:=126) R<|Ag (by kernel_rfl)<|zm R R<|zp (A7 R R R)<|zn<|?_
 refine zd R (fun c134=> ?_) (fun c134=> ?_)
 have hEc:=R4 hEv (N9 (plS t n).m ((plS t n).off+(plS m.h.m m.h.len).len) ((plS t n).off+(plS t n).len))
 refine Ag (by kernel_rfl)<|zp (Ae (s':= .d (.agg (Vo.c (Jo y (plS m.h.m m.h.len) (plS t n))))) (Ac (Ad R R Aq R lb)) (by kernel_rfl))<|zm R R<|XL.call1 R R (H6 _ _ (by assumption)) R<|za R R<|zn<|zs<|zr<|zm R R<|zp (Az R R R)<|zn<|?_
 refine zd R (fun c139=> ?_) (fun c139=> ?_)
 refine zr<|?_
 refine zp (Ae (s':= .d (.agg [dI 0,dI 0,dI 0,dI 0,dI 0,dI 0,dI 0,dI 0,dI 0,dI 0,dI 0,dI 0,dB false,dI 0,dI 0,dI 0,dI 0,dI 0,dI 0, .v (.string ⟨#[]⟩), .v (.slice none 0 0), .v (.slice none 0 0)])) (Ac (A1 (r:= [.d (dI 0), .d (dI 0), .d (dI 0), .d (dI 0), .d (dI 0), .d (dI 0), .d (dI 0), .d (dI 0), .d (dI 0), .d (dI 0), .d (dI 0), .d (dI 0), .d (dB false), .d (dI 0), .d (dI 0), .d (dI 0), .d (dI 0), .d (dI 0), .d (dI 0), .d (.v (.string ⟨#[]⟩)), .d (.v (.slice none 0 0)), .d (.v (.slice none 0 0))]) R F8 C2 (by kernel_rfl))) (by kernel_rfl))<|?_
 refine zm R R<|XL.step R (Af (l':= [.d (dI 0), .d (dI 0), .d (dI 0), .d (dI 0), .d (dI 0), .d (dI 0), .d (dI 0), .d (dI 0), .d (dI 0), .d (dI 0), .d (dI 0), .d (dI 0), .d (dB false), .d (dI 0), .d (dI 0), .d (dI 0), .d (dI 0), .d (dI 0), .d (dI 0), .d (.v (.string ⟨#[]⟩)), .d (.v (.slice none 0 0)), .d (.v (.slice none 0 0))]) R R R R Do R lb (by kernel_rfl))<|za R R<|zn<|zt<|?_
 exact Ax R (RV.sub (RV.cells R R R Bn lb R) (.agg (.cons (.same R) (.cons (.same R) (.cons (.same R) (.cons (.same R) (.cons (.same R) (.cons (.same R) (.cons (.same R) (.cons (.same R) (.cons (.same R) (.cons (.same R) (.cons (.same R) (.cons (.same R) (.cons (.same R) (.cons (.same R) (.cons (.same R) (.cons (.same R) (.cons (.same R) (.cons (.same R) (.cons (.same R) (.cons (.same R) (.cons (.nil 3) (.cons (.nil 2) (.nil))))))))))))))))))))))))) (RV.tmp R R) (by first|exact H9 c30 c41 hgo hx hgv hy (by first|rw [Kv hns c105 (by omega)]|rw [Fq hns c105 (by omega)]|rw [Ku hns c105 (by omega)]|rw [Fp hns c105 (by omega)]) (by omega)|exact prE (F3 (by assumption)).2.symm (F3 (by assumption)).1.symm|exact prE (Fs c30 (by assumption)).2.symm (Fs c30 (by assumption)).1.symm|(rw [show m.tempi.take i=m.tempi from List.take_of_length_le (by omega)];exact Gw (by first|exact F6 c41 (by omega)|exact F5 c41 (by omega)) c30 c41 (by rw [←hgo,List.drop_of_length_le (by omega)];rfl)))
 refine zi<|Cj 8 [] (by kernel_rfl) (by kernel_rfl) (by kernel_rfl) (by kernel_rfl) (by decide)<|yp (Aa R R B9)<|yp (Ab R R Ep R R)<|ym R R<|yp (Ee R R R (R) R Fm (H8 (Hj hkl)))<|yp (Aa R R C8)<|yp (Ae (s':= .own 7502) (Dk R R Fy R (Ck (Dj hx)) R) R)<|ym R R<|?_
 refine yp (Ae (s':= .d (.agg (Vo.c (Jo y (plS m.h.m m.h.len) (plS t n))))) (Ac (Ad R R Aq R lb)) (by kernel_rfl))<|?_
 refine ChK.nil ⟨by kernel_rfl, ?_⟩
 refine zp (Cd R R R (R) R Je (by first|omega|(rw [List.length_map];omega)))<|XL.step R (Dw R R R (Cv hg) R R Bm R lb)<|zn<|Ag (by kernel_rfl)<|zm R R<|zp (Ak R R R (by omega) (by omega))<|za R R<|zn<|?_
 exact Al (j+1) (⟨by omega,by rw [←I2 hy (by first|(rw [Fq hns c105 (by omega)];omega)|(rw [Fp hns c105 (by omega)];omega))];exact hgv⟩) (by omega) (fz ⟨sr,sr,sr,sr,sr,sr,sr,sr,sr,trivial⟩) (gz ⟨rfl,rfl,rfl,rfl,rfl,rfl,L8 (a:=(De y (plS m.h.m m.h.len) (plS t n)).1) (by first|(rw [Fq hns c105 (by omega)];done)|(rw [Fp hns c105 (by omega)];done)|(rw [Fq hns c105 (by omega)];rfl)|(rw [Fp hns c105 (by omega)];rfl)) (Gf hy),trivial⟩)
 refine zi<|zs<|zr<|zm R R<|zp (Az R R R)<|zn<|?_
 refine zd R (fun c139=> ?_) (fun c139=> ?_)
 refine zr<|?_
 refine zp (Ae (s':= .d (.agg [dI 0,dI 0,dI 0,dI 0,dI 0,dI 0,dI 0,dI 0,dI 0,dI 0,dI 0,dI 0,dB false,dI 0,dI 0,dI 0,dI 0,dI 0,dI 0, .v (.string ⟨#[]⟩), .v (.slice none 0 0), .v (.slice none 0 0)])) (Ac (A1 (r:= [.d (dI 0), .d (dI 0), .d (dI 0), .d (dI 0), .d (dI 0), .d (dI 0), .d (dI 0), .d (dI 0), .d (dI 0), .d (dI 0), .d (dI 0), .d (dI 0), .d (dB false), .d (dI 0), .d (dI 0), .d (dI 0), .d (dI 0), .d (dI 0), .d (dI 0), .d (.v (.string ⟨#[]⟩)), .d (.v (.slice none 0 0)), .d (.v (.slice none 0 0))]) R F8 C2 (by kernel_rfl))) (by kernel_rfl))<|?_
 refine zm R R<|XL.step R (Af (l':= [.d (dI 0), .d (dI 0), .d (dI 0), .d (dI 0), .d (dI 0), .d (dI 0), .d (dI 0), .d (dI 0), .d (dI 0), .d (dI 0), .d (dI 0), .d (dI 0), .d (dB false), .d (dI 0), .d (dI 0), .d (dI 0), .d (dI 0), .d (dI 0), .d (dI 0), .d (.v (.string ⟨#[]⟩)), .d (.v (.slice none 0 0)), .d (.v (.slice none 0 0))]) R R R R Do R lb (by kernel_rfl))<|za R R<|zn<|zt<|?_
 exact Ax R (RV.sub (RV.cells R R R Bn lb R) (.agg (.cons (.same R) (.cons (.same R) (.cons (.same R) (.cons (.same R) (.cons (.same R) (.cons (.same R) (.cons (.same R) (.cons (.same R) (.cons (.same R) (.cons (.same R) (.cons (.same R) (.cons (.same R) (.cons (.same R) (.cons (.same R) (.cons (.same R) (.cons (.same R) (.cons (.same R) (.cons (.same R) (.cons (.same R) (.cons (.same R) (.cons (.nil 3) (.cons (.nil 2) (.nil))))))))))))))))))))))))) (RV.tmp R R) (by first|exact H9 c30 c41 hgo hx hgv hy (by first|rw [Kv hns c105 (by omega)]|rw [Fq hns c105 (by omega)]|rw [Ku hns c105 (by omega)]|rw [Fp hns c105 (by omega)]) (by omega)|exact prE (F3 (by assumption)).2.symm (F3 (by assumption)).1.symm|exact prE (Fs c30 (by assumption)).2.symm (Fs c30 (by assumption)).1.symm|(rw [show m.tempi.take i=m.tempi from List.take_of_length_le (by omega)];exact Gw (by first|exact F6 c41 (by omega)|exact F5 c41 (by omega)) c30 c41 (by rw [←hgo,List.drop_of_length_le (by omega)];rfl)))
 exfalso;omega
 refine Au<|zr<|za R R<|zn<|zs<|zr<|za R R<|zn<|Ah<|Di 7801 18 84 2 R<|?_
 refine A0 (α:=Nat) (fun i=>i≤x.clefs.length) (fun i=>mkF [(4, .ptr 4 0 0),(6, .ptr 6 0 0),(8, .d (dI (plS m.h.m m.h.len).len)),(10, .d (dI (plS t n).len)),(11, .ptr 11 0 0),(12, .ptr 12 0 0),(13, .ptr 13 0 0),(14, .d (dI k)),(18, .own 7801),(19, .d (dI i))]) (fun i=>mkH [(4, .box ((Me.c t).map S.d)),(6, .box [.d (dI 0), .d (dI 0), .d (dI 0), .d (dI 0), .d (dI 0), .d (dI 0), .d (dI 0), .d (dI 0), .d (dI 0), .d (dI 0), .d (dI 0), .d (dI 0), .d (dB false), .d (dI 0), .d (dI 0), .d (dI 0), .d (dI 0), .d (dI 0), .d (dI 0), .d (.v (.string ⟨#[]⟩)), .d (.v (.slice none 0 0)), .d (.v (.slice none 0 0))]),(11, .box [.d (dI m.h.site), .d (dI m.h.num), .d (dI m.h.m.count), .d (dI m.h.m.unit), .d (dI m.h.m.g0), .d (dI m.h.m.g1), .d (dI m.h.m.g2), .d (dI m.h.m.g3), .d (dI m.h.m.g4), .d (dI m.h.m.g5), .d (dI m.h.len), .d (dI m.h.fifths), .d (dB m.h.start), .d (dI m.h.fin), .d (dI m.h.ends), .d (dI m.h.jump), .d (dI m.h.labels), .d (dI m.h.swing), .d (dI m.h.brk), .d (.v (.string ⟨m.h.reh.toArray⟩)), .d (.sl 3 (m.tempi.map Tm.c)), .own 7402]),(12, .box ((Pl.c (plS m.h.m m.h.len)).map S.d)),(13, .box ((Pl.c (plS t n)).map S.d)),(7402, .tree 78 2 [7502] ((mix Ce.u Ce.t ((m.cells.take k).map (Bo (plS m.h.m m.h.len) (plS t n))) (m.cells.drop k)).set k [.d (.sl 2 (x.clefs.map Cf.c)), .own 7502])),(7502, .row 82 2 ((G3 (fun v=>(De v (plS m.h.m m.h.len) (plS t n)).1) x.voices j).map Vo.c)),(7801, .row 84 2 (((x.clefs.take i).filter (cfK (plS t n).len)).map Cf.c))]) (fun i=>x.clefs.length - i) (0) (Nat.zero_le _) ?_ ?_ ?_
 exact fz ⟨sr,sr,sr,sr,sr,sr,sr,sr,sr,sr,trivial⟩
 exact gz ⟨R,R,R,R,R,R,R,R,trivial⟩
 intro i hk4
 have hi:=hk4
 have hfl:=List.length_filter_le (cfK (plS t n).len) (x.clefs.take i)
 rw [List.length_take] at hfl
 refine zs<|zr<|zm R R<|zp (Aa R R B9)<|zp (Ab R R Ep R R)<|zm R R<|zp (Ee R R R (R) R Fm (H8 (Hj hkl)))<|zp (Aa R R Ez)<|zp (Ae (s':= .d (.sl 2 (x.clefs.map Cf.c))) (Dk R R Lh R (Ck (Dj hx)) R) R)<|XL.len R R R Tryz.underlying75 fun hl158=>zp (As R R R)<|zn<|?_
 refine zd R (fun c159=> ?_) (fun c159=> ?_)
 have hil:i<x.clefs.length:=by omega
 obtain ⟨u,hu⟩:=Aw hil
 refine zi<|zs<|Ah<|zr<|zp (Aa R R B9)<|zp (Ab R R Ep R R)<|zm R R<|zp (Ee R R R (R) R Fm (H8 (Hj hkl)))<|zp (Aa R R Ez)<|zp (Ae (s':= .d (.sl 2 (x.clefs.map Cf.c))) (Dk R R Lh R (Ck (Dj hx)) R) R)<|zm R R<|zp (Ap R R R Ln (hu))<|zp (Ff R R Z6)<|zp (Ba R R Ai)<|?_
 refine zm R R<|zp (As R R R)<|zn<|?_
 refine zd R (fun c173=> ?_) (fun c173=> ?_)
 refine Ag (by kernel_rfl)<|zp (At R (by conv=>lhs;whnf))<|?_
 refine zp (Aa R R B9)<|zp (Ab R R Ep R R)<|zm R R<|zp (Ee R R R (R) R Fm (H8 (Hj hkl)))<|zp (Aa R R Ez)<|zp (Ae (s':= .d (.sl 2 (x.clefs.map Cf.c))) (Dk R R Lh R (Ck (Dj hx)) R) R)<|zm R R<|zp (Ap R R R Ln (hu))<|zp (Ae (s':= .d (.agg (Cf.c u))) (A4 R R Nw lb) (by kernel_rfl))<|?_
 refine XL.step R (Bj 184 R Tryz.underlying75 X1 Ro R R (by omega) (by omega))<|XL.step R (A3 R Aae (.own R) (Src.own R) (by unfold maxLen;simp;omega) (by simp;omega))<|zp (Av R (by conv=>lhs;whnf))<|?_
 refine zn<|Ag (by kernel_rfl)<|zm R R<|zp (Ak R R R (by omega) (by omega))<|za R R<|zn<|?_
 exact Al (i+1) (by omega) (by omega) (fz ⟨sr,sr,sr,sr,sr,sr,sr,sr,sr,sr,trivial⟩) (gz ⟨R,R,R,R,R,R,R,Io (a:=u) R (Nu hu (V8 (by omega))),trivial⟩)
 refine zi<|Ag (by kernel_rfl)<|zm R R<|zp (Ak R R R (by omega) (by omega))<|za R R<|zn<|?_
 exact Al (i+1) (by omega) (by omega) (fz ⟨sr,sr,sr,sr,sr,sr,sr,sr,sr,sr,trivial⟩) (gz ⟨R,R,R,R,R,R,R,Kh (R3 hu (Aak (by omega))).symm,trivial⟩)
 refine Au<|Ag (by kernel_rfl)<|zp (Aa R R B9)<|zp (Ab R R Ep R R)<|zm R R<|zp (At R (by conv=>lhs;whnf))<|?_
 refine zp (Ee R R R (R) R Fm (H8 (Hj hkl)))<|zp (Aa R R Ez)<|XL.step R (Js [7502,7801] (l':=(mix Ce.u Ce.t ((m.cells.take k).map (Bo (plS m.h.m m.h.len) (plS t n))) (m.cells.drop k)).set k [.own 7801, .own 7502]) R R R (Ck (Dj hx)) R X2 R lb R R (List.set_set ..))<|zn<|Ag (by kernel_rfl)<|?_
 refine XL.rowq (i:=7801) (l':=(((Bo (plS m.h.m m.h.len) (plS t n)) x).clefs).map Cf.c) R (by rw [show x.clefs.take i=x.clefs from List.take_of_length_le (by omega)];rfl)<|XL.freeze (i:=7801) R<|?_
 refine XL.rowqT (i:=7402) (l':=(mix Ce.u Ce.t ((m.cells.take k).map (Bo (plS m.h.m m.h.len) (plS t n))) (m.cells.drop k)).set k [.d (.sl 2 ((((Bo (plS m.h.m m.h.len) (plS t n)) x).clefs).map Cf.c)), .own 7502]) [7502] R (Nj (E5 [] _ _) R) (D5 (E5 [] _ _) (Gd (R) (R)) _)<|?_
 refine XL.rowq (i:=7502) (l':=(((Bo (plS m.h.m m.h.len) (plS t n)) x).voices).map Vo.c) R (by rw [Oe (by omega)];rfl)<|XL.freeze (i:=7502) R<|?_
 refine XL.rowqT (i:=7402) (l':=(mix Ce.u Ce.t ((m.cells.take k).map (Bo (plS m.h.m m.h.len) (plS t n))) (m.cells.drop k)).set k [.d (.sl 2 ((((Bo (plS m.h.m m.h.len) (plS t n)) x).clefs).map Cf.c)), .d (.sl 2 ((((Bo (plS m.h.m m.h.len) (plS t n)) x).voices).map Vo.c))]) [] R (Nj (E5 [] _ _) R) (D5 (E5 [] _ _) (Gd (R) (R)) _)<|?_
 refine XL.rowqT (i:=7402) (l':=mix Ce.u Ce.t ((m.cells.take (k+1)).map (Bo (plS m.h.m m.h.len) (plS t n))) (m.cells.drop (k+1))) [] R (Pt hx) (E5 [] _ _)<|zm R R<|zp (Ak R R R (by omega) (by omega))<|za R R<|zn<|?_
 exact Al (k+1) (⟨by omega,by rw [←Tb hx (by rw [←hgv,List.drop_of_length_le (by omega)];rfl)];exact hgo⟩) (by omega) (fz ⟨sr,sr,sr,sr,sr,sr,sr,sr,trivial⟩) (gz ⟨rfl,rfl,rfl,rfl,rfl,rfl,trivial⟩)
 refine Au<|zr<|za R R<|zn<|zs<|zr<|za R R<|zn<|Ah<|Di 7802 20 119 3 R<|?_
 refine A0 (α:=Nat) (fun i=>i≤m.tempi.length) (fun i=>mkF [(4, .ptr 4 0 0),(6, .ptr 6 0 0),(10, .d (dI (plS t n).len)),(11, .ptr 11 0 0),(20, .own 7802),(21, .d (dI i))]) (fun i=>mkH [(4, .box ((Me.c t).map S.d)),(6, .box [.d (dI 0), .d (dI 0), .d (dI 0), .d (dI 0), .d (dI 0), .d (dI 0), .d (dI 0), .d (dI 0), .d (dI 0), .d (dI 0), .d (dI 0), .d (dI 0), .d (dB false), .d (dI 0), .d (dI 0), .d (dI 0), .d (dI 0), .d (dI 0), .d (dI 0), .d (.v (.string ⟨#[]⟩)), .d (.v (.slice none 0 0)), .d (.v (.slice none 0 0))]),(11, .box [.d (dI m.h.site), .d (dI m.h.num), .d (dI m.h.m.count), .d (dI m.h.m.unit), .d (dI m.h.m.g0), .d (dI m.h.m.g1), .d (dI m.h.m.g2), .d (dI m.h.m.g3), .d (dI m.h.m.g4), .d (dI m.h.m.g5), .d (dI m.h.len), .d (dI m.h.fifths), .d (dB m.h.start), .d (dI m.h.fin), .d (dI m.h.ends), .d (dI m.h.jump), .d (dI m.h.labels), .d (dI m.h.swing), .d (dI m.h.brk), .d (.v (.string ⟨m.h.reh.toArray⟩)), .d (.sl 3 (m.tempi.map Tm.c)), .own 7402]),(7402, .tree 78 2 [] (mix Ce.u Ce.t ((m.cells.take k).map (Bo (plS m.h.m m.h.len) (plS t n))) (m.cells.drop k))),(7802, .row 119 3 ((List.filter (tmK (plS t n).len) (m.tempi.take i)).map Tm.c))]) (fun i=>m.tempi.length - i) (0) (Nat.zero_le _) ?_ ?_ ?_
 exact fz ⟨sr,sr,sr,sr,sr,sr,trivial⟩
 exact gz ⟨R,R,R,R,R,trivial⟩
 intro i hk6
 have hi:=hk6
 have hfl:=List.length_filter_le (tmK (plS t n).len) (m.tempi.take i)
 rw [List.length_take] at hfl
 refine zs<|zr<|zm R R<|zp (Aa R R Dd)<|zp (Ab R R I7 R R)<|XL.len R R R Tryz.underlying27 fun hl195=>zp (As R R R)<|zn<|?_
 refine zd R (fun c196=> ?_) (fun c196=> ?_)
 have hil:i<m.tempi.length:=by omega
 obtain ⟨u,hu⟩:=Aw hil
 refine zi<|zs<|Ah<|zr<|zp (Aa R R Dd)<|zp (Ab R R I7 R R)<|zm R R<|zp (Ap R R R Ky (hu))<|zp (Ff R R Xk)<|zp (Ba R R Ai)<|zm R R<|zp (As R R R)<|zn<|?_
 refine zd R (fun c206=> ?_) (fun c206=> ?_)
 refine Ag (by kernel_rfl)<|zp (At R (by conv=>lhs;whnf))<|?_
 refine zp (Aa R R Dd)<|zp (Ab R R I7 R R)<|zm R R<|zp (Ap R R R Ky (hu))<|zp (Ae (s':= .d (.agg (Tm.c u))) (A4 R R Lf lb) (by kernel_rfl))<|XL.step R (Bj 213 R Tryz.underlying27 O1 K2 R R (by omega) (by omega))<|XL.step R (A3 R U0 (.own R) (Src.own R) (by unfold maxLen;simp;omega) (by simp;omega))<|?_
 refine zp (Av R (by conv=>lhs;whnf))<|?_
 refine zn<|Ag (by kernel_rfl)<|zm R R<|zp (Ak R R R (by omega) (by omega))<|za R R<|zn<|?_
 exact Al (i+1) (by omega) (by omega) (fz ⟨sr,sr,sr,sr,sr,sr,trivial⟩) (gz ⟨R,R,R,R,Io (a:=u) R (Nu hu (Ve (by omega))),trivial⟩)
 refine zi<|Ag (by kernel_rfl)<|zm R R<|zp (Ak R R R (by omega) (by omega))<|za R R<|zn<|?_
 exact Al (i+1) (by omega) (by omega) (fz ⟨sr,sr,sr,sr,sr,sr,trivial⟩) (gz ⟨R,R,R,R,Kh (R3 hu (Yh (by omega))).symm,trivial⟩)
 refine Au<|zs<|Hm (i:=7802) R<|Tj (i:=7402) R (Vp _ _) (by rw [Zn,show m.cells.take k=m.cells from List.take_of_length_le (by omega),List.drop_of_length_le (by omega),List.append_nil])<|?_
 refine Va 4 6 7 (fun s=>s) (mkH [(4, .box ((Me.c t).map S.d)),(6, .box [.d (dI 0), .d (dI 0), .d (dI 0), .d (dI 0), .d (dI 0), .d (dI 0), .d (dI 0), .d (dI 0), .d (dI 0), .d (dI 0), .d (dI 0), .d (dI 0), .d (dB false), .d (dI 0), .d (dI 0), .d (dI 0), .d (dI 0), .d (dI 0), .d (dI 0), .d (.v (.string ⟨#[]⟩)), .d (.v (.slice none 0 0)), .d (.v (.slice none 0 0))]),(11, .box [.d (dI m.h.site), .d (dI m.h.num), .d (dI m.h.m.count), .d (dI m.h.m.unit), .d (dI m.h.m.g0), .d (dI m.h.m.g1), .d (dI m.h.m.g2), .d (dI m.h.m.g3), .d (dI m.h.m.g4), .d (dI m.h.m.g5), .d (dI m.h.len), .d (dI m.h.fifths), .d (dB m.h.start), .d (dI m.h.fin), .d (dI m.h.ends), .d (dI m.h.jump), .d (dI m.h.labels), .d (dI m.h.swing), .d (dI m.h.brk), .d (.v (.string ⟨m.h.reh.toArray⟩)), .d (.sl 3 ((List.filter (tmK (plS t n).len) (m.tempi.take i)).map Tm.c)), .d (.sl 2 ((m.cells.map (Bo (plS m.h.m m.h.len) (plS t n))).map Ce.c))])]) (mkH [(4, .box ((Me.c t).map S.d)),(6, .box [.d (dI 0), .d (dI 0), .d (dI 0), .d (dI 0), .d (dI 0), .d (dI 0), .d (dI 0), .d (dI 0), .d (dI 0), .d (dI 0), .d (dI 0), .d (dI 0), .d (dB false), .d (dI 0), .d (dI 0), .d (dI 0), .d (dI 0), .d (dI 0), .d (dI 0), .d (.v (.string ⟨#[]⟩)), .d (.v (.slice none 0 0)), .d (.v (.slice none 0 0))]),(11, .box [.d (dI m.h.site), .d (dI m.h.num), .d (dI t.count), .d (dI t.unit), .d (dI t.g0), .d (dI t.g1), .d (dI t.g2), .d (dI t.g3), .d (dI t.g4), .d (dI t.g5), .d (dI m.h.len), .d (dI m.h.fifths), .d (dB m.h.start), .d (dI m.h.fin), .d (dI m.h.ends), .d (dI m.h.jump), .d (dI m.h.labels), .d (dI m.h.swing), .d (dI m.h.brk), .d (.v (.string ⟨m.h.reh.toArray⟩)), .d (.sl 3 ((List.filter (tmK (plS t n).len) (m.tempi.take i)).map Tm.c)), .d (.sl 2 ((m.cells.map (Bo (plS m.h.m m.h.len) (plS t n))).map Ce.c))])]) (by kernel_rfl) (by kernel_rfl) (by kernel_rfl) (by kernel_rfl)<|?_
 refine ChFK.bf R (CStep.pure (At R (by conv=>lhs;whnf))) (by conv=>lhs;whnf)<|?_
 refine ChFK.fr R R (CStep.pure (Ae (s':= .d (.agg (Me.c t))) (Ac (Ad R R A8 R lb)) (by kernel_rfl))) (CStep.pure (Ae (s':= .d (.agg (Me.c t))) (Ac (Ad R R A8 R lb)) (by kernel_rfl))) (by exact rfl)<|?_
 refine ChFK.ff R R (CStep.pure (At R (by conv=>lhs;whnf))) (CStep.pure (At R (by conv=>lhs;whnf))) (CStep.pure (At R (by conv=>lhs;whnf))) (by exact rfl)<|?_
 refine ChFK.bf R (CStep.pure (Aa R R Dd)) (by conv=>lhs;whnf)<|?_
 refine ChFK.mus R R (Py (l':= [.d (dI m.h.site), .d (dI m.h.num), .d (dI m.h.m.count), .d (dI m.h.m.unit), .d (dI m.h.m.g0), .d (dI m.h.m.g1), .d (dI m.h.m.g2), .d (dI m.h.m.g3), .d (dI m.h.m.g4), .d (dI m.h.m.g5), .d (dI m.h.len), .d (dI m.h.fifths), .d (dB m.h.start), .d (dI m.h.fin), .d (dI m.h.ends), .d (dI m.h.jump), .d (dI m.h.labels), .d (dI m.h.swing), .d (dI m.h.brk), .d (.v (.string ⟨m.h.reh.toArray⟩)), .d (.sl 3 ((List.filter (tmK (plS t n).len) (m.tempi.take i)).map Tm.c)), .d (.sl 2 ((m.cells.map (Bo (plS m.h.m m.h.len) (plS t n))).map Ce.c))]) R R R R Rr R lb (by kernel_rfl) (gz ⟨R,R,R,trivial⟩))<|?_
 refine ChFK.af R (CStep.pure (Aa R R F4))<|?_
 refine ChFK.st R (Py (l':= [.d (dI m.h.site), .d (dI m.h.num), .d (dI t.count), .d (dI t.unit), .d (dI t.g0), .d (dI t.g1), .d (dI t.g2), .d (dI t.g3), .d (dI t.g4), .d (dI t.g5), .d (dI m.h.len), .d (dI m.h.fifths), .d (dB m.h.start), .d (dI m.h.fin), .d (dI m.h.ends), .d (dI m.h.jump), .d (dI m.h.labels), .d (dI m.h.swing), .d (dI m.h.brk), .d (.v (.string ⟨m.h.reh.toArray⟩)), .d (.sl 3 ((List.filter (tmK (plS t n).len) (m.tempi.take i)).map Tm.c)), .d (.sl 2 ((m.cells.map (Bo (plS m.h.m m.h.len) (plS t n))).map Ce.c))]) R R R R An5 R lb (by kernel_rfl) (gz ⟨R,R,R,trivial⟩))<|?_
 refine ChFK.nil ⟨⟨by kernel_rfl,by kernel_rfl,by kernel_rfl⟩, ?_⟩
 refine zp (Aa R R Em)<|?_
 refine XL.step R (Af (l':= [.d (dI m.h.site), .d (dI m.h.num), .d (dI t.count), .d (dI t.unit), .d (dI t.g0), .d (dI t.g1), .d (dI t.g2), .d (dI t.g3), .d (dI t.g4), .d (dI t.g5), .d (dI (plS t n).len), .d (dI m.h.fifths), .d (dB m.h.start), .d (dI m.h.fin), .d (dI m.h.ends), .d (dI m.h.jump), .d (dI m.h.labels), .d (dI m.h.swing), .d (dI m.h.brk), .d (.v (.string ⟨m.h.reh.toArray⟩)), .d (.sl 3 ((List.filter (tmK (plS t n).len) (m.tempi.take i)).map Tm.c)), .d (.sl 2 ((m.cells.map (Bo (plS m.h.m m.h.len) (plS t n))).map Ce.c))]) R R R R Er R lb (by kernel_rfl))<|?_
 refine zn<|zs<|zr<|zp (Ae (s':= .d (.agg (Me.c t))) (Ac (Ad R R A8 R lb)) (by kernel_rfl))<|XL.call1 R R (Ic _) R<|zm R R<|zp (Ar R R R)<|zp (Ar R R R)<|za R R<|za R R<|znr<|zm R R<|zm R R<|zp (A7 R R R)<|?_
 refine zn<|?_
 refine zd R (fun c228=> ?_) (fun c228=> ?_)
 refine Ag (by kernel_rfl)<|zp (Aa R R Em)<|?_
 refine XL.step R (Af (l':= [.d (dI m.h.site), .d (dI m.h.num), .d (dI t.count), .d (dI t.unit), .d (dI t.g0), .d (dI t.g1), .d (dI t.g2), .d (dI t.g3), .d (dI t.g4), .d (dI t.g5), .d (dI 0), .d (dI m.h.fifths), .d (dB m.h.start), .d (dI m.h.fin), .d (dI m.h.ends), .d (dI m.h.jump), .d (dI m.h.labels), .d (dI m.h.swing), .d (dI m.h.brk), .d (.v (.string ⟨m.h.reh.toArray⟩)), .d (.sl 3 ((List.filter (tmK (plS t n).len) (m.tempi.take i)).map Tm.c)), .d (.sl 2 ((m.cells.map (Bo (plS m.h.m m.h.len) (plS t n))).map Ce.c))]) R R R R Er R lb (by kernel_rfl))<|?_
 refine znr<|?_
 refine zp (Ae (s':= .d (.agg [dI m.h.site,dI m.h.num,dI t.count,dI t.unit,dI t.g0,dI t.g1,dI t.g2,dI t.g3,dI t.g4,dI t.g5,dI 0,dI m.h.fifths,dB m.h.start,dI m.h.fin,dI m.h.ends,dI m.h.jump,dI m.h.labels,dI m.h.swing,dI m.h.brk, .v (.string ⟨m.h.reh.toArray⟩), .sl 3 ((List.filter (tmK (plS t n).len) (m.tempi.take i)).map Tm.c), .sl 2 ((m.cells.map (Bo (plS m.h.m m.h.len) (plS t n))).map Ce.c)])) (Ac (Ad R R Bn R lb)) (by kernel_rfl))<|?_
 refine XL.step R (Af (l':= [.d (dI m.h.site), .d (dI m.h.num), .d (dI t.count), .d (dI t.unit), .d (dI t.g0), .d (dI t.g1), .d (dI t.g2), .d (dI t.g3), .d (dI t.g4), .d (dI t.g5), .d (dI 0), .d (dI m.h.fifths), .d (dB m.h.start), .d (dI m.h.fin), .d (dI m.h.ends), .d (dI m.h.jump), .d (dI m.h.labels), .d (dI m.h.swing), .d (dI m.h.brk), .d (.v (.string ⟨m.h.reh.toArray⟩)), .d (.sl 3 ((List.filter (tmK (plS t n).len) (m.tempi.take i)).map Tm.c)), .d (.sl 2 ((m.cells.map (Bo (plS m.h.m m.h.len) (plS t n))).map Ce.c))]) R R R R Do R lb (by kernel_rfl))<|?_
 refine za R R<|zn<|zt<|?_
 exact Ax R (RV.cells R R R Bn lb R) (RV.tmp R R) (by first|exact H9 c30 c41 hgo hx hgv hy (by first|rw [Kv hns c105 (by omega)]|rw [Fq hns c105 (by omega)]|rw [Ku hns c105 (by omega)]|rw [Fp hns c105 (by omega)]) (by omega)|exact prE (F3 (by assumption)).2.symm (F3 (by assumption)).1.symm|exact prE (Fs c30 (by assumption)).2.symm (Fs c30 (by assumption)).1.symm|(rw [show m.tempi.take i=m.tempi from List.take_of_length_le (by omega)];exact Gw (by first|exact F6 c41 (by omega)|exact F5 c41 (by omega)) c30 c41 (by rw [←hgo,List.drop_of_length_le (by omega)];rfl)))
 refine zi<|zr<|?_
 refine zp (Ae (s':= .d (.agg [dI m.h.site,dI m.h.num,dI t.count,dI t.unit,dI t.g0,dI t.g1,dI t.g2,dI t.g3,dI t.g4,dI t.g5,dI (plS t n).len,dI m.h.fifths,dB m.h.start,dI m.h.fin,dI m.h.ends,dI m.h.jump,dI m.h.labels,dI m.h.swing,dI m.h.brk, .v (.string ⟨m.h.reh.toArray⟩), .sl 3 ((List.filter (tmK (plS t n).len) (m.tempi.take i)).map Tm.c), .sl 2 ((m.cells.map (Bo (plS m.h.m m.h.len) (plS t n))).map Ce.c)])) (Ac (Ad R R Bn R lb)) (by kernel_rfl))<|?_
 refine XL.step R (Af (l':= [.d (dI m.h.site), .d (dI m.h.num), .d (dI t.count), .d (dI t.unit), .d (dI t.g0), .d (dI t.g1), .d (dI t.g2), .d (dI t.g3), .d (dI t.g4), .d (dI t.g5), .d (dI (plS t n).len), .d (dI m.h.fifths), .d (dB m.h.start), .d (dI m.h.fin), .d (dI m.h.ends), .d (dI m.h.jump), .d (dI m.h.labels), .d (dI m.h.swing), .d (dI m.h.brk), .d (.v (.string ⟨m.h.reh.toArray⟩)), .d (.sl 3 ((List.filter (tmK (plS t n).len) (m.tempi.take i)).map Tm.c)), .d (.sl 2 ((m.cells.map (Bo (plS m.h.m m.h.len) (plS t n))).map Ce.c))]) R R R R Do R lb (by kernel_rfl))<|?_
 refine za R R<|zn<|zt<|?_
 exact Ax R (RV.cells R R R Bn lb R) (RV.tmp R R) (by first|exact H9 c30 c41 hgo hx hgv hy (by first|rw [Kv hns c105 (by omega)]|rw [Fq hns c105 (by omega)]|rw [Ku hns c105 (by omega)]|rw [Fp hns c105 (by omega)]) (by omega)|exact prE (F3 (by assumption)).2.symm (F3 (by assumption)).1.symm|exact prE (Fs c30 (by assumption)).2.symm (Fs c30 (by assumption)).1.symm|(rw [show m.tempi.take i=m.tempi from List.take_of_length_le (by omega)];exact Gw (by first|exact F6 c41 (by omega)|exact F5 c41 (by omega)) c30 c41 (by rw [←hgo,List.drop_of_length_le (by omega)];rfl)))
end Go.Proofs.YtaafemnkamfgnaaGreat
namespace Go.Proofs.YtaafemnkamfgnaaGreat
open Go.RowKit
theorem Aha (m:Ms) (t:Me) (n:Int) (hR:m.room) (hE:m.evs):XC Tryz.prog 7 [.agg (Ms.c m), .agg (Me.c t), .v (.int .i64 n)] (fun r=>r=dB true):=by
 have hF2:=Als m
 have hE2:=Alt hE
 refine Am Ahu Tryz.func7 R R lb<|zr<|?_
 refine XL.step R (An 3 (l:= [.d (dI m.h.site), .d (dI m.h.num), .d (dI m.h.m.count), .d (dI m.h.m.unit), .d (dI m.h.m.g0), .d (dI m.h.m.g1), .d (dI m.h.m.g2), .d (dI m.h.m.g3), .d (dI m.h.m.g4), .d (dI m.h.m.g5), .d (dI m.h.len), .d (dI m.h.fifths), .d (dB m.h.start), .d (dI m.h.fin), .d (dI m.h.ends), .d (dI m.h.jump), .d (dI m.h.labels), .d (dI m.h.swing), .d (dI m.h.brk), .d (.v (.string ⟨m.h.reh.toArray⟩)), .d (.sl 3 (m.tempi.map Tm.c)), .d (.sl 2 (m.cells.map Ce.c))]) R R (by kernel_rfl))<|?_
 refine XL.step R (An 4 (l:= [.d (dI t.count), .d (dI t.unit), .d (dI t.g0), .d (dI t.g1), .d (dI t.g2), .d (dI t.g3), .d (dI t.g4), .d (dI t.g5)]) R R (by kernel_rfl))<|za R R<|znr<|zp (Ae (s':= .d (.agg (Ms.c m))) (Ac (Ad R R Bn R lb)) (by kernel_rfl))<|XL.call1 R R (Alo _ (by assumption)) R<|?_
 refine XL.step R (Af (l':= [.d (dI (Bu m).h.site), .d (dI (Bu m).h.num), .d (dI (Bu m).h.m.count), .d (dI (Bu m).h.m.unit), .d (dI (Bu m).h.m.g0), .d (dI (Bu m).h.m.g1), .d (dI (Bu m).h.m.g2), .d (dI (Bu m).h.m.g3), .d (dI (Bu m).h.m.g4), .d (dI (Bu m).h.m.g5), .d (dI (Bu m).h.len), .d (dI (Bu m).h.fifths), .d (dB (Bu m).h.start), .d (dI (Bu m).h.fin), .d (dI (Bu m).h.ends), .d (dI (Bu m).h.jump), .d (dI (Bu m).h.labels), .d (dI (Bu m).h.swing), .d (dI (Bu m).h.brk), .d (.v (.string ⟨(Bu m).h.reh.toArray⟩)), .d (.sl 3 ((Bu m).tempi.map Tm.c)), .d (.sl 2 ((Bu m).cells.map Ce.c))]) R R R R Do R lb (by kernel_rfl))<|?_
 refine znr<|zp (Ae (s':= .d (.agg (Ms.c (Bu m)))) (Ac (Ad R R Bn R lb)) (by kernel_rfl))<|zp (Ae (s':= .d (.agg (Me.c t))) (Ac (Ad R R A8 R lb)) (by kernel_rfl))<|zm R R<|XL.call1 R R (Afl _ _ _ hF2 hE2) R<|zm R R<|zp (Ar R R R)<|zp (Ar R R R)<|?_
 refine XL.step R (Ao 7 (l:= [.d (dI 0), .d (dI 0), .d (dI 0), .d (dI 0), .d (dI 0), .d (dI 0), .d (dI 0), .d (dI 0), .d (dI 0), .d (dI 0), .d (dI 0), .d (dI 0), .d (dB false), .d (dI 0), .d (dI 0), .d (dI 0), .d (dI 0), .d (dI 0), .d (dI 0), .d (.v (.string ⟨#[]⟩)), .d (.v (.slice none 0 0)), .d (.v (.slice none 0 0))]) R C2 (by kernel_rfl))<|?_
 refine XL.step R (Af (l':= [.d (dI (Co (Bu m) t n).h.site), .d (dI (Co (Bu m) t n).h.num), .d (dI (Co (Bu m) t n).h.m.count), .d (dI (Co (Bu m) t n).h.m.unit), .d (dI (Co (Bu m) t n).h.m.g0), .d (dI (Co (Bu m) t n).h.m.g1), .d (dI (Co (Bu m) t n).h.m.g2), .d (dI (Co (Bu m) t n).h.m.g3), .d (dI (Co (Bu m) t n).h.m.g4), .d (dI (Co (Bu m) t n).h.m.g5), .d (dI (Co (Bu m) t n).h.len), .d (dI (Co (Bu m) t n).h.fifths), .d (dB (Co (Bu m) t n).h.start), .d (dI (Co (Bu m) t n).h.fin), .d (dI (Co (Bu m) t n).h.ends), .d (dI (Co (Bu m) t n).h.jump), .d (dI (Co (Bu m) t n).h.labels), .d (dI (Co (Bu m) t n).h.swing), .d (dI (Co (Bu m) t n).h.brk), .d (.v (.string ⟨(Co (Bu m) t n).h.reh.toArray⟩)), .d (.sl 3 ((Co (Bu m) t n).tempi.map Tm.c)), .d (.sl 2 ((Co (Bu m) t n).cells.map Ce.c))]) R R R R Do R lb (by kernel_rfl))<|?_
 refine za R R<|znr<|zp (Ae (s':= .d (.agg (Ms.c (Bu m)))) (Ac (Ad R R Bn R lb)) (by kernel_rfl))<|zp (Ae (s':= .d (.agg (Me.c t))) (Ac (Ad R R A8 R lb)) (by kernel_rfl))<|zm R R<|XL.call1 R R (Ap8 _ _ _ hF2 hE2 (Ain m) (Arp m)) R<|zm R R<|zp (Ar R R R)<|zp (Ar R R R)<|?_
 refine XL.step R (Ao 9 (l:= [.d (dI 0), .d (dI 0), .d (dI 0), .d (dI 0), .d (dI 0), .d (dI 0), .d (dI 0), .d (dI 0), .d (dI 0), .d (dI 0), .d (dI 0), .d (dI 0), .d (dB false), .d (dI 0), .d (dI 0), .d (dI 0), .d (dI 0), .d (dI 0), .d (dI 0), .d (.v (.string ⟨#[]⟩)), .d (.v (.slice none 0 0)), .d (.v (.slice none 0 0))]) R C2 (by kernel_rfl))<|?_
 refine XL.step R (Af (l':= [.d (dI (Co (Bu m) t n).h.site), .d (dI (Co (Bu m) t n).h.num), .d (dI (Co (Bu m) t n).h.m.count), .d (dI (Co (Bu m) t n).h.m.unit), .d (dI (Co (Bu m) t n).h.m.g0), .d (dI (Co (Bu m) t n).h.m.g1), .d (dI (Co (Bu m) t n).h.m.g2), .d (dI (Co (Bu m) t n).h.m.g3), .d (dI (Co (Bu m) t n).h.m.g4), .d (dI (Co (Bu m) t n).h.m.g5), .d (dI (Co (Bu m) t n).h.len), .d (dI (Co (Bu m) t n).h.fifths), .d (dB (Co (Bu m) t n).h.start), .d (dI (Co (Bu m) t n).h.fin), .d (dI (Co (Bu m) t n).h.ends), .d (dI (Co (Bu m) t n).h.jump), .d (dI (Co (Bu m) t n).h.labels), .d (dI (Co (Bu m) t n).h.swing), .d (dI (Co (Bu m) t n).h.brk), .d (.v (.string ⟨(Co (Bu m) t n).h.reh.toArray⟩)), .d (.sl 3 ((Co (Bu m) t n).tempi.map Tm.c)), .d (.sl 2 ((Co (Bu m) t n).cells.map Ce.c))]) R R R R Do R lb (by kernel_rfl))<|?_
 refine za R R<|znr<|XL.call1 R R (Amr) R<|zm R R<|zm R R<|zm R R<|zp (D7 (A7 R R R) (R))<|zq R R R<|zm R R<|zp (Ae (s':= .d (.agg (Ms.c (Co (Bu m) t n)))) (Ac (Ad R R Bn R lb)) (by kernel_rfl))<|zp (Ae (s':= .d (.agg (Ms.c (Co (Bu m) t n)))) (Ac (Ad R R Bn R lb)) (by kernel_rfl))<|XL.call1 R R (Ah3 (Apz _ _) R) R<|zq R R R<|?_
 exact za R R<|zn<|zt<|z1 R R (R)
end Go.Proofs.YtaafemnkamfgnaaGreat
