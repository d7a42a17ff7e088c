/- Part 11 of what the statements need: lemmas and walks. -/
import Derived.Test.YtaafemnkamfgnaaGreatQu10
set_option linter.unusedVariables false
set_option linter.unusedSimpArgs false
set_option linter.unusedSectionVars false
set_option maxRecDepth 20000
set_option maxHeartbeats 8000000
namespace Go.Proofs.YtaafemnkamfgnaaGreat
open Go.RowKit
theorem Zq (a b:Ms) (hA:a.fit) (hB:b.fit):XC Tryz.prog 34 [.agg (Ms.c a), .agg (Ms.c b)] (fun r=>r=dB (decide (Py a=Py b))):=by
 refine An Aex Tryz.func34 R R lb<|zr<|?_
 refine XL.step R (Ap 2 (l:= [.d (dI a.h.site), .d (dI a.h.num), .d (dI a.h.m.count), .d (dI a.h.m.unit), .d (dI a.h.m.g0), .d (dI a.h.m.g1), .d (dI a.h.m.g2), .d (dI a.h.m.g3), .d (dI a.h.m.g4), .d (dI a.h.m.g5), .d (dI a.h.len), .d (dI a.h.fifths), .d (dB a.h.start), .d (dI a.h.fin), .d (dI a.h.ends), .d (dI a.h.jump), .d (dI a.h.labels), .d (dI a.h.swing), .d (dI a.h.brk), .d (.v (.string ⟨a.h.reh.toArray⟩)), .d (.sl 3 (a.tempi.map Tm.c)), .d (.sl 2 (a.cells.map Ce.c))]) R R (by kernel_rfl))<|?_
 refine XL.step R (Ap 3 (l:= [.d (dI b.h.site), .d (dI b.h.num), .d (dI b.h.m.count), .d (dI b.h.m.unit), .d (dI b.h.m.g0), .d (dI b.h.m.g1), .d (dI b.h.m.g2), .d (dI b.h.m.g3), .d (dI b.h.m.g4), .d (dI b.h.m.g5), .d (dI b.h.len), .d (dI b.h.fifths), .d (dB b.h.start), .d (dI b.h.fin), .d (dI b.h.ends), .d (dI b.h.jump), .d (dI b.h.labels), .d (dI b.h.swing), .d (dI b.h.brk), .d (.v (.string ⟨b.h.reh.toArray⟩)), .d (.sl 3 (b.tempi.map Tm.c)), .d (.sl 2 (b.cells.map Ce.c))]) R R (by kernel_rfl))<|?_
 refine za R R<|zn<|zs<|Bv [] (by kernel_rfl) (by kernel_rfl) (by kernel_rfl) (by decide)<|yp (Ae (s':= .d (.agg (Ms.c a))) (Ac (Ad R R Bj R lb)) (by kernel_rfl))<|ChK.cons R (CStep.call R (Agj _ (by assumption)) R)<|yp (Ae (s':= .d (.agg (Ms.c b))) (Ac (Ad R R Bj R lb)) (by kernel_rfl))<|ChK.cons R (CStep.call R (Agj _ (by assumption)) R)<|?_
 refine ChK.cons R (CStep.call R (Rs _ _) R)<|ya R R<|?_
 refine ChK.nil ⟨by kernel_rfl, ?_⟩
 exact zt<|z1 R R (R)
theorem Zs (m:Ms):XC Tryz.prog 36 [.agg (Ms.c (Aj m))] (fun r=>r= .agg (Ms.c (Py (Aj m)))):=by
 have k:=Aj1 (Aj m) (Ai1 m)
 rw [Aro] at k
 exact k
theorem Atj {l:List Vo} {q:Nat} (y:Vo):T.toDLL ((l.map Vo.t).set q (Vo.u y))=(l.set q y).map Vo.c:=by rw [P7 (k:=q),Vos.t_D,List.map_set];rfl
theorem Atp {m:Ms} {x x':Ce} (hx:m.cells[0]? =some x) (h:x'.clefs.length≠x.clefs.length):¬m=⟨m.h,m.tempi,m.cells.set 0 x'⟩:=fun e=>by
 have e2:m.cells=m.cells.set 0 x':=congrArg Ms.cells e
 have h0:=(List.getElem?_eq_some_iff.1 hx).1
 rw [e2,List.getElem?_set_self h0] at hx
 cases hx
 exact h rfl
theorem Zu (a b:Ms) (site:Int) (hRa:a.room) (hRb:b.room):XC Tryz.prog 9 [.agg (Ms.c a), .agg (Ms.c b), .v (.int .i64 site)] (fun r=>r=dB true):=by
 have hFa:=Tb a
 have hFb:=Tb b
 have hca:=hFa.cells
 refine An Ah9 Tryz.func9 R R lb<|zr<|?_
 refine XL.step R (Ap 3 (l:= [.d (dI a.h.site), .d (dI a.h.num), .d (dI a.h.m.count), .d (dI a.h.m.unit), .d (dI a.h.m.g0), .d (dI a.h.m.g1), .d (dI a.h.m.g2), .d (dI a.h.m.g3), .d (dI a.h.m.g4), .d (dI a.h.m.g5), .d (dI a.h.len), .d (dI a.h.fifths), .d (dB a.h.start), .d (dI a.h.fin), .d (dI a.h.ends), .d (dI a.h.jump), .d (dI a.h.labels), .d (dI a.h.swing), .d (dI a.h.brk), .d (.v (.string ⟨a.h.reh.toArray⟩)), .d (.sl 3 (a.tempi.map Tm.c)), .d (.sl 2 (a.cells.map Ce.c))]) R R (by kernel_rfl))<|?_
 refine XL.step R (Ap 4 (l:= [.d (dI b.h.site), .d (dI b.h.num), .d (dI b.h.m.count), .d (dI b.h.m.unit), .d (dI b.h.m.g0), .d (dI b.h.m.g1), .d (dI b.h.m.g2), .d (dI b.h.m.g3), .d (dI b.h.m.g4), .d (dI b.h.m.g5), .d (dI b.h.len), .d (dI b.h.fifths), .d (dB b.h.start), .d (dI b.h.fin), .d (dI b.h.ends), .d (dI b.h.jump), .d (dI b.h.labels), .d (dI b.h.swing), .d (dI b.h.brk), .d (.v (.string ⟨b.h.reh.toArray⟩)), .d (.sl 3 (b.tempi.map Tm.c)), .d (.sl 2 (b.cells.map Ce.c))]) R R (by kernel_rfl))<|?_
 refine za R R<|zn<|zs<|Cq 3 [] (by kernel_rfl) (by kernel_rfl) (by kernel_rfl) (by kernel_rfl) (by decide)<|yp (Ae (s':= .d (.agg (Ms.c a))) (Ac (Ad R R Bj R lb)) (by kernel_rfl))<|ChK.cons R (CStep.call R (Yv _ (by assumption)) R)<|yp (Ae (s':= .d (.agg (Ms.c b))) (Ac (Ad R R Bj R lb)) (by kernel_rfl))<|?_
 refine ChK.nil ⟨by kernel_rfl, ?_⟩
 refine XL.call1 R R (Yv _ (by assumption)) R<|?_
 refine XL.step R (Af (l':= [.d (dI (Aj a).h.site), .d (dI (Aj a).h.num), .d (dI (Aj a).h.m.count), .d (dI (Aj a).h.m.unit), .d (dI (Aj a).h.m.g0), .d (dI (Aj a).h.m.g1), .d (dI (Aj a).h.m.g2), .d (dI (Aj a).h.m.g3), .d (dI (Aj a).h.m.g4), .d (dI (Aj a).h.m.g5), .d (dI (Aj a).h.len), .d (dI (Aj a).h.fifths), .d (dB (Aj a).h.start), .d (dI (Aj a).h.fin), .d (dI (Aj a).h.ends), .d (dI (Aj a).h.jump), .d (dI (Aj a).h.labels), .d (dI (Aj a).h.swing), .d (dI (Aj a).h.brk), .d (.v (.string ⟨(Aj a).h.reh.toArray⟩)), .d (.sl 3 ((Aj a).tempi.map Tm.c)), .d (.sl 2 ((Aj a).cells.map Ce.c))]) R R R R E9 R lb (by kernel_rfl))<|?_
 refine XL.step R (Af (l':= [.d (dI (Aj b).h.site), .d (dI (Aj b).h.num), .d (dI (Aj b).h.m.count), .d (dI (Aj b).h.m.unit), .d (dI (Aj b).h.m.g0), .d (dI (Aj b).h.m.g1), .d (dI (Aj b).h.m.g2), .d (dI (Aj b).h.m.g3), .d (dI (Aj b).h.m.g4), .d (dI (Aj b).h.m.g5), .d (dI (Aj b).h.len), .d (dI (Aj b).h.fifths), .d (dB (Aj b).h.start), .d (dI (Aj b).h.fin), .d (dI (Aj b).h.ends), .d (dI (Aj b).h.jump), .d (dI (Aj b).h.labels), .d (dI (Aj b).h.swing), .d (dI (Aj b).h.brk), .d (.v (.string ⟨(Aj b).h.reh.toArray⟩)), .d (.sl 3 ((Aj b).tempi.map Tm.c)), .d (.sl 2 ((Aj b).cells.map Ce.c))]) R R R R E9 R lb (by kernel_rfl))<|?_
 refine znr<|zp (Ae (s':= .d (.agg (Ms.c (Aj a)))) (Ac (Ad R R Bj R lb)) (by kernel_rfl))<|XL.callS R R (N3 _ hFa) R<|?_
 refine XL.step R (Aq 7 (l:= [.d (dI 0), .d (dI 0), .d (dI 0), .d (dI 0), .d (dI 0), .d (dI 0), .d (dI 0), .d (dI 0), .d (dI 0), .d (dI 0), .d (dI 0), .d (dI 0), .d (dB false), .d (dI 0), .d (dI 0), .d (dI 0), .d (dI 0), .d (dI 0), .d (dI 0), .d (.v (.string ⟨#[]⟩)), .d (.v (.slice none 0 0)), .d (.v (.slice none 0 0))]) R E6 (by kernel_rfl))<|?_
 refine XL.step R (Af (l':= [.d (dI ((Aj a).h).site), .d (dI ((Aj a).h).num), .d (dI ((Aj a).h).m.count), .d (dI ((Aj a).h).m.unit), .d (dI ((Aj a).h).m.g0), .d (dI ((Aj a).h).m.g1), .d (dI ((Aj a).h).m.g2), .d (dI ((Aj a).h).m.g3), .d (dI ((Aj a).h).m.g4), .d (dI ((Aj a).h).m.g5), .d (dI ((Aj a).h).len), .d (dI ((Aj a).h).fifths), .d (dB ((Aj a).h).start), .d (dI ((Aj a).h).fin), .d (dI ((Aj a).h).ends), .d (dI ((Aj a).h).jump), .d (dI ((Aj a).h).labels), .d (dI ((Aj a).h).swing), .d (dI ((Aj a).h).brk), .d (.v (.string ⟨((Aj a).h).reh.toArray⟩)), .own 7401, .own 7402]) R R R R E9 R lb (by kernel_rfl))<|?_
 refine zn<|zs<|zs<|Bv [] (by kernel_rfl) (by kernel_rfl) (by kernel_rfl) (by decide)<|ChK.cons R (CStep.call R (Am2) R)<|yp (D2 R R)<|ym R R<|yp (Ae (s':= .d (.agg (Ms.c (Aj a)))) (Ac (Ad R R Bj R lb)) (by kernel_rfl))<|yp (Ac (Ad R R Bj R lb))<|?_
 refine ChK.cons R (CStep.lendT R (P2 (Rs (Aj a) (Aj a)) R) ((.cons (.s (.d _)) (.cons (.agg (.cons (.s (.d _)) (.cons (.s (.d _)) (.cons (.s (.d _)) (.cons (.s (.d _)) (.cons (.s (.d _)) (.cons (.s (.d _)) (.cons (.s (.d _)) (.cons (.s (.d _)) (.cons (.s (.d _)) (.cons (.s (.d _)) (.cons (.s (.d _)) (.cons (.s (.d _)) (.cons (.s (.d _)) (.cons (.s (.d _)) (.cons (.s (.d _)) (.cons (.s (.d _)) (.cons (.s (.d _)) (.cons (.s (.d _)) (.cons (.s (.d _)) (.cons (.s (.d _)) (.cons (.s (.own R)) (.cons (.tree R (Ces.t_fz _) (Ces.t_D _)) .nil))))))))))))))))))))))) .nil))))<|?_
 refine yp (D2 R R)<|yp (Be R R (by conv=>lhs;whnf))<|?_
 refine ym R R<|yp (Ae (s':= .d (.agg (Ms.c (Aj a)))) (Ac (Ad R R Bj R lb)) (by kernel_rfl))<|yp (Ac (Ad R R Bj R lb))<|?_
 refine ChK.cons R (CStep.lendT R (P2 (Zq (Aj a) (Aj a) hFa hFa) R) ((.cons (.s (.d _)) (.cons (.agg (.cons (.s (.d _)) (.cons (.s (.d _)) (.cons (.s (.d _)) (.cons (.s (.d _)) (.cons (.s (.d _)) (.cons (.s (.d _)) (.cons (.s (.d _)) (.cons (.s (.d _)) (.cons (.s (.d _)) (.cons (.s (.d _)) (.cons (.s (.d _)) (.cons (.s (.d _)) (.cons (.s (.d _)) (.cons (.s (.d _)) (.cons (.s (.d _)) (.cons (.s (.d _)) (.cons (.s (.d _)) (.cons (.s (.d _)) (.cons (.s (.d _)) (.cons (.s (.d _)) (.cons (.s (.own R)) (.cons (.tree R (Ces.t_fz _) (Ces.t_D _)) .nil))))))))))))))))))))))) .nil))))<|?_
 refine yp (D2 R R)<|yp (Be R R (by conv=>lhs;whnf))<|?_
 refine ym R R<|yp (Ae (s':= .d (.agg (Ms.c (Aj a)))) (Ac (Ad R R Bj R lb)) (by kernel_rfl))<|yp (Ae (s':= .d (.agg (Ms.c (Aj b)))) (Ac (Ad R R Bj R lb)) (by kernel_rfl))<|ChK.cons R (CStep.call R (Rs _ _) R)<|yp (Ae (s':= .d (.agg (Ms.c (Aj a)))) (Ac (Ad R R Bj R lb)) (by kernel_rfl))<|?_
 refine yp (Ae (s':= .d (.agg (Ms.c (Aj b)))) (Ac (Ad R R Bj R lb)) (by kernel_rfl))<|ChK.cons R (CStep.call R (Qu _ _) R)<|yp (Hc (Zf R R R Tryz.underlying4) (fun h=>h R))<|yp (Be R R (by conv=>lhs;whnf))<|?_
 refine ym R R<|yp (Ae (s':= .d (.agg (Ms.c (Aj a)))) (Ac (Ad R R Bj R lb)) (by kernel_rfl))<|yp (Ae (s':= .d (.agg (Ms.c (Aj b)))) (Ac (Ad R R Bj R lb)) (by kernel_rfl))<|ChK.cons R (CStep.call R (Zq _ _ hFa hFb) R)<|yp (Ae (s':= .d (.agg (Ms.c (Aj a)))) (Ac (Ad R R Bj R lb)) (by kernel_rfl))<|?_
 refine ChK.cons R (CStep.call R (Zs a) R)<|yp (Ae (s':= .d (.agg (Ms.c (Aj b)))) (Ac (Ad R R Bj R lb)) (by kernel_rfl))<|ChK.cons R (CStep.call R (Zs b) R)<|ChK.cons R (CStep.call R (Qu _ _) R)<|yp (Hc (Zf R R R Tryz.underlying4) (fun h=>h R))<|yp (Be R R (by conv=>lhs;whnf))<|?_
 refine ChK.nil ⟨by kernel_rfl, ?_⟩
 refine A8 (by kernel_rfl) R<|zi<|zs<|zs<|?_
 refine O5 (mkF [(2, .d (dI site)),(3, .ptr 3 0 0),(6, .d (dB false)),(7, .ptr 7 0 0)]) (mkH [(3, .box ((Ms.c (Aj a)).map S.d)),(7, .box [.d (dI ((Aj a).h).site), .d (dI ((Aj a).h).num), .d (dI ((Aj a).h).m.count), .d (dI ((Aj a).h).m.unit), .d (dI ((Aj a).h).m.g0), .d (dI ((Aj a).h).m.g1), .d (dI ((Aj a).h).m.g2), .d (dI ((Aj a).h).m.g3), .d (dI ((Aj a).h).m.g4), .d (dI ((Aj a).h).m.g5), .d (dI ((Aj a).h).len), .d (dI ((Aj a).h).fifths), .d (dB ((Aj a).h).start), .d (dI ((Aj a).h).fin), .d (dI ((Aj a).h).ends), .d (dI ((Aj a).h).jump), .d (dI ((Aj a).h).labels), .d (dI ((Aj a).h).swing), .d (dI ((Aj a).h).brk), .d (.v (.string ⟨((Aj a).h).reh.toArray⟩)), .own 7401, .own 7402]),(7401, .row 119 3 (((Aj a).tempi).map Tm.c)),(7402, .tree 78 2 [] ((Aj a).cells.map Ce.t))]) (fz ⟨sr,sr,sr,sr,trivial⟩) (gz ⟨R,R,R,R,trivial⟩)<|?_
 refine Ag (by kernel_rfl)<|zp (Aa R R Bm)<|zp (Ab R R Df R R)<|zp (Ae (s':= .d (dI ((Aj a).cells.length))) (Gq R R R Tryz.underlying28) (sI (by rw [List.length_map])))<|zp (Bb R R R)<|zm R R<|?_
 refine XL.dec 52 R (fun g52=> ?_) (fun g52=> ?_)
 obtain ⟨x,hx⟩:∃x,(Aj a).cells[0]? =some x:=Ar (by omega)
 have hcf:=hFa.c x (List.mem_of_getElem? hx)
 have hvl:=hcf.voices
 have hcl:=hcf.clefs
 have hlc:0<((Aj a).cells.map Ce.t).length:=by rw [List.length_map];omega
 refine XL.openT (i:=7402) (j:=7502) (k:=0) (m:=1) (l':=((Aj a).cells.map Ce.t).set 0 [.row 84 2 (((x.clefs).map Cf.c).map (·.map T.d)), .own 7502]) [] (x.voices.map Vo.t) R R R (Fz hx) R (Vos.t_in [] _) (R)<|?_
 refine XL.openR (i:=7402) (j:=7501) (k:=0) (m:=0) (l':=((Aj a).cells.map Ce.t).set 0 [.own 7501, .own 7502]) ((x.clefs).map Cf.c) R R R (B1 (Fz hx)) R (List.set_set ..)<|zp (Aa R R Bm)<|zp (Ab R R Df R R)<|zp (Di R R R ((R:(0:Int)=((0:Nat):Int))) R Em (F8 hlc))<|zp (Aa R R Cm)<|?_
 refine zp (Ae (s':= .own 7502) (C0 R R Eg R (B1 (Fz hx)) R) R)<|zp (Ae (s':= .d (dI x.voices.length)) (Gq R R R Tryz.underlying76) (sI (by rw [List.length_map])))<|zp (Bb R R R)<|zq R R R<|zm R R<|?_
 refine XL.dec 61 R (fun g61=> ?_) (fun g61=> ?_)
 obtain ⟨y,hy⟩:∃y,x.voices[0]? =some y:=Ar (by omega)
 have hvf:=hcf.v y (List.mem_of_getElem? hy)
 have hel:=hvf.evs
 have hlv:0<(x.voices.map Vo.t).length:=by rw [List.length_map];omega
 refine XL.openR (i:=7502) (j:=7601) (k:=0) (m:=0) (l':=(x.voices.map Vo.t).set 0 [.own 7601, .row 157 4 (((y.tups).map Tp.c).map (·.map T.d))]) ((y.evs).map Ev.c) R R R (Fz hy) R (R)<|XL.openR (i:=7502) (j:=7602) (k:=0) (m:=1) (l':=(x.voices.map Vo.t).set 0 [.own 7601, .own 7602]) ((y.tups).map Tp.c) R R R (B1 (Fz hy)) R (List.set_set ..)<|?_
 refine zp (Aa R R Bm)<|zp (Ab R R Df R R)<|zp (Di R R R ((R:(0:Int)=((0:Nat):Int))) R Em (F8 hlc))<|zp (Aa R R Cm)<|zp (Ae (s':= .own 7502) (C0 R R Eg R (B1 (Fz hx)) R) R)<|zp (Di R R R ((R:(0:Int)=((0:Nat):Int))) R Ic (F8 hlv))<|zp (Aa R R Bo)<|?_
 refine zp (Ae (s':= .own 7601) (C0 R R Cz R (B1 (Fz hy)) R) R)<|zp (Bz R R R Tryz.underlying79)<|zp (Bb R R R)<|zq R R R<|zn<|?_
 refine zd R (fun c72=> ?_) (fun c72=> ?_)
 refine zs<|?_
 have hle:0<y.evs.length:=by omega
 obtain ⟨e,he⟩:∃e,y.evs[0]? =some e:=Ar (by omega)
 refine Ag (by kernel_rfl)<|zp (Aa R R Bm)<|zp (Ab R R Df R R)<|zp (Di R R R ((R:(0:Int)=((0:Nat):Int))) R Em (F8 hlc))<|zp (Aa R R Cm)<|zp (Ae (s':= .own 7502) (C0 R R Eg R (B1 (Fz hx)) R) R)<|zp (Di R R R ((R:(0:Int)=((0:Nat):Int))) R Ic (F8 hlv))<|zp (Aa R R Bo)<|?_
 refine zp (Ae (s':= .own 7601) (C0 R R Cz R (B1 (Fz hy)) R) R)<|zm R R<|zp (Ck R R R ((R:(0:Int)=((0:Nat):Int))) R F5 (by first|exact hle|(rw [List.length_map];exact hle)))<|zp (Aa R R Iu)<|zp (Aa R R Z8)<|XL.step R (D8 R R R (C2 he) R R Ey R lb)<|?_
 refine XL.rowq (i:=7601) (l':=(y.evs.set 0 {e with site:=site}).map Ev.c) R (by rw [List.map_set];rfl)<|zn<|zs<|?_
 refine O5 (mkF [(3, .ptr 3 0 0),(6, .d (dB false)),(7, .ptr 7 0 0)]) (mkH [(3, .box ((Ms.c (Aj a)).map S.d)),(7, .box [.d (dI ((Aj a).h).site), .d (dI ((Aj a).h).num), .d (dI ((Aj a).h).m.count), .d (dI ((Aj a).h).m.unit), .d (dI ((Aj a).h).m.g0), .d (dI ((Aj a).h).m.g1), .d (dI ((Aj a).h).m.g2), .d (dI ((Aj a).h).m.g3), .d (dI ((Aj a).h).m.g4), .d (dI ((Aj a).h).m.g5), .d (dI ((Aj a).h).len), .d (dI ((Aj a).h).fifths), .d (dB ((Aj a).h).start), .d (dI ((Aj a).h).fin), .d (dI ((Aj a).h).ends), .d (dI ((Aj a).h).jump), .d (dI ((Aj a).h).labels), .d (dI ((Aj a).h).swing), .d (dI ((Aj a).h).brk), .d (.v (.string ⟨((Aj a).h).reh.toArray⟩)), .own 7401, .own 7402]),(7401, .row 119 3 (((Aj a).tempi).map Tm.c)),(7402, .tree 78 2 [7501,7502] (((Aj a).cells.map Ce.t).set 0 [.own 7501, .own 7502])),(7501, .row 84 2 ((x.clefs).map Cf.c)),(7502, .tree 82 2 [7602,7601] ((x.voices.map Vo.t).set 0 [.own 7601, .own 7602])),(7601, .row 59 13 ((y.evs.set 0 {e with site:=site}).map Ev.c)),(7602, .row 157 4 ((y.tups).map Tp.c))]) (fz ⟨sr,sr,sr,trivial⟩) (gz ⟨R,R,R,R,R,R,R,R,trivial⟩)<|?_
 refine Jl 9 10 [] (S.kill 7501) 987654 (fun k _=>(mkH [(3, .box ((Ms.c (Aj a)).map S.d)),(7, .box [.d (dI ((Aj a).h).site), .d (dI ((Aj a).h).num), .d (dI ((Aj a).h).m.count), .d (dI ((Aj a).h).m.unit), .d (dI ((Aj a).h).m.g0), .d (dI ((Aj a).h).m.g1), .d (dI ((Aj a).h).m.g2), .d (dI ((Aj a).h).m.g3), .d (dI ((Aj a).h).m.g4), .d (dI ((Aj a).h).m.g5), .d (dI ((Aj a).h).len), .d (dI ((Aj a).h).fifths), .d (dB ((Aj a).h).start), .d (dI ((Aj a).h).fin), .d (dI ((Aj a).h).ends), .d (dI ((Aj a).h).jump), .d (dI ((Aj a).h).labels), .d (dI ((Aj a).h).swing), .d (dI ((Aj a).h).brk), .d (.v (.string ⟨((Aj a).h).reh.toArray⟩)), .own 7401, .own 7402]),(7401, .row 119 3 (((Aj a).tempi).map Tm.c)),(7402, .tree 78 2 [7502] (((Aj a).cells.map Ce.t).set 0 [.any, .own 7502])),(7501, .row 84 2 ((x.clefs++ [(⟨5,0⟩:Cf)]).map Cf.c)),(7502, .tree 82 2 [7602,7601] ((x.voices.map Vo.t).set 0 [.own 7601, .own 7602])),(7601, .row 59 13 ((y.evs.set 0 {e with site:=site}).map Ev.c)),(7602, .row 157 4 ((y.tups).map Tp.c))]) k) (by kernel_rfl) (by kernel_rfl) (by kernel_rfl) (by kernel_rfl) R (by decide)<|?_
 refine ChMK.fr R R (CStep.pure (Aa R R Bm)) (CStep.pure (Aa R R Bm)) (by exact rfl)<|ChMK.fr R R (CStep.pure (Ab R R Df R R)) (CStep.pure (Ab R R Df R R)) (by exact rfl)<|ChMK.bf R (CStep.pure (Aa R R Bm)) (by conv=>lhs;whnf)<|?_
 refine ChMK.bf R (CStep.pure (Ab R R Df R R)) (by conv=>lhs;whnf)<|?_
 refine ChMK.bf R (CStep.pure (Di R R R ((R:(0:Int)=((0:Nat):Int))) R Em (F8 hlc))) (by conv=>lhs;whnf)<|?_
 refine ChMK.bf R (CStep.pure (Aa R R Ea)) (by conv=>lhs;whnf)<|?_
 refine ChMK.bf R (CStep.pure (Ae (s':= .own 7501) (C0 R R Iz R (B1 (Fz hx)) R) R)) (by conv=>lhs;whnf)<|?_
 refine ChMK.bf R (CStep.pure (Ae (s':= .d (.agg [dI 5,dI 0])) (Ac (A4 R Ari Oq R)) (by kernel_rfl))) (by conv=>lhs;whnf)<|?_
 refine ChMK.bf R (CStep.slice R Tryz.underlying75 Xy Oq R R (by omega) (by omega)) (by conv=>lhs;whnf)<|?_
 refine ChMK.mu R (Ap5 (Atd (i:=7402) (k:=0) (m:=0) (ls':= [7502]) (l':=((Aj a).cells.map Ce.t).set 0 [.any, .own 7502]) R (B1 (Fz hx)) R (List.set_set ..) (Cv (Ces.t_in [] _) (Ee (R) (R)) _)) (Tv (l2:=(x.clefs++ [(⟨5,0⟩:Cf)]).map Cf.c) R Aai (.own R) (Src.sl (by omega)) (by unfold maxLen;simp;omega) (by simp;omega) (by rw [List.map_append];rfl)) (gz ⟨R,R,R,R,R,R,R,R,trivial⟩))<|?_
 refine ChMK.nil ⟨⟨by kernel_rfl,by kernel_rfl,by kernel_rfl⟩, ?_⟩
 refine zp (Di R R R ((R:(0:Int)=((0:Nat):Int))) R Em (F8 hlc))<|zp (Aa R R Ea)<|XL.step R (Jh [7501,7502] (l':=((Aj a).cells.map Ce.t).set 0 [.own 7501, .own 7502]) R R R (B1 (Fz hx)) R Xz R lb R R (List.set_set ..))<|zn<|zs<|?_
 refine O5 (mkF [(3, .ptr 3 0 0),(6, .d (dB false)),(7, .ptr 7 0 0)]) (mkH [(3, .box ((Ms.c (Aj a)).map S.d)),(7, .box [.d (dI ((Aj a).h).site), .d (dI ((Aj a).h).num), .d (dI ((Aj a).h).m.count), .d (dI ((Aj a).h).m.unit), .d (dI ((Aj a).h).m.g0), .d (dI ((Aj a).h).m.g1), .d (dI ((Aj a).h).m.g2), .d (dI ((Aj a).h).m.g3), .d (dI ((Aj a).h).m.g4), .d (dI ((Aj a).h).m.g5), .d (dI ((Aj a).h).len), .d (dI ((Aj a).h).fifths), .d (dB ((Aj a).h).start), .d (dI ((Aj a).h).fin), .d (dI ((Aj a).h).ends), .d (dI ((Aj a).h).jump), .d (dI ((Aj a).h).labels), .d (dI ((Aj a).h).swing), .d (dI ((Aj a).h).brk), .d (.v (.string ⟨((Aj a).h).reh.toArray⟩)), .own 7401, .own 7402]),(7401, .row 119 3 (((Aj a).tempi).map Tm.c)),(7402, .tree 78 2 [7501,7502] (((Aj a).cells.map Ce.t).set 0 [.own 7501, .own 7502])),(7501, .row 84 2 ((x.clefs++ [(⟨5,0⟩:Cf)]).map Cf.c)),(7502, .tree 82 2 [7602,7601] ((x.voices.map Vo.t).set 0 [.own 7601, .own 7602])),(7601, .row 59 13 ((y.evs.set 0 {e with site:=site}).map Ev.c)),(7602, .row 157 4 ((y.tups).map Tp.c))]) (fz ⟨sr,sr,sr,trivial⟩) (gz ⟨R,R,R,R,R,R,R,R,trivial⟩)<|?_
 refine If (i:=7601) R<|Kv (i:=7502) (l':=(x.voices.map Vo.t).set 0 [.d (.sl 13 ((y.evs.set 0 {e with site:=site}).map Ev.c)), .own 7602]) [7602] R (F0 (Vos.t_in [] _) R) (Cv (Vos.t_in [] _) (Ee (R) (R)) _)<|If (i:=7602) R<|?_
 refine Kv (i:=7502) (l':=(x.voices.map Vo.t).set 0 [.d (.sl 13 ((y.evs.set 0 {e with site:=site}).map Ev.c)), .d (.sl 4 (y.tups.map Tp.c))]) [] R (F0 (Vos.t_in [] _) R) (Cv (Vos.t_in [] _) (Ee (R) (R)) _)<|O6 (i:=7502) R (Tz R (Vos.t_fz _)) (Atj (⟨y.evs.set 0 {e with site:=site},y.tups⟩:Vo))<|?_
 refine Kv (i:=7402) (l':=((Aj a).cells.map Ce.t).set 0 [.own 7501, .d (.sl 2 ((x.voices.set 0 (⟨y.evs.set 0 {e with site:=site},y.tups⟩:Vo)).map Vo.c))]) [7501] R (F0 (Ces.t_in [] _) R) (Cv (Ces.t_in [] _) (Ee (R) (R)) _)<|If (i:=7501) R<|?_
 refine Kv (i:=7402) (l':=((Aj a).cells.map Ce.t).set 0 [.d (.sl 2 ((x.clefs++ [(⟨5,0⟩:Cf)]).map Cf.c)), .d (.sl 2 ((x.voices.set 0 (⟨y.evs.set 0 {e with site:=site},y.tups⟩:Vo)).map Vo.c))]) [] R (F0 (Ces.t_in [] _) R) (Cv (Ces.t_in [] _) (Ee (R) (R)) _)<|If (i:=7401) R<|?_
 refine O6 (i:=7402) R (Tz R (Ces.t_fz _)) (Aun (⟨x.clefs++ [(⟨5,0⟩:Cf)],x.voices.set 0 (⟨y.evs.set 0 {e with site:=site},y.tups⟩:Vo)⟩:Ce))<|?_
 refine O5 (mkF [(3, .ptr 3 0 0),(6, .d (dB false)),(7, .ptr 7 0 0)]) (mkH [(3, .box ((Ms.c (Aj a)).map S.d)),(7, .box [.d (dI ((Aj a).h).site), .d (dI ((Aj a).h).num), .d (dI ((Aj a).h).m.count), .d (dI ((Aj a).h).m.unit), .d (dI ((Aj a).h).m.g0), .d (dI ((Aj a).h).m.g1), .d (dI ((Aj a).h).m.g2), .d (dI ((Aj a).h).m.g3), .d (dI ((Aj a).h).m.g4), .d (dI ((Aj a).h).m.g5), .d (dI ((Aj a).h).len), .d (dI ((Aj a).h).fifths), .d (dB ((Aj a).h).start), .d (dI ((Aj a).h).fin), .d (dI ((Aj a).h).ends), .d (dI ((Aj a).h).jump), .d (dI ((Aj a).h).labels), .d (dI ((Aj a).h).swing), .d (dI ((Aj a).h).brk), .d (.v (.string ⟨((Aj a).h).reh.toArray⟩)), .d (.sl 3 (((Aj a).tempi).map Tm.c)), .d (.sl 2 (((Aj a).cells.set 0 (⟨x.clefs++ [(⟨5,0⟩:Cf)],x.voices.set 0 (⟨y.evs.set 0 {e with site:=site},y.tups⟩:Vo)⟩:Ce)).map Ce.c))])]) (fz ⟨sr,sr,sr,trivial⟩) (gz ⟨R,R,trivial⟩)<|?_
 refine Bv [] (by kernel_rfl) (by kernel_rfl) (by kernel_rfl) (by decide)<|yp (Ae (s':= .d (.agg (Ms.c (Aj a)))) (Ac (Ad R R Bj R lb)) (by kernel_rfl))<|yp (Ae (s':= .d (.agg (Ms.c (Aj a)))) (Ac (Ad R R Bj R lb)) (by kernel_rfl))<|ChK.cons R (CStep.call R (Amt _ hFa) R)<|ChK.cons R (CStep.call R (P2 (Qu _ _) R) R)<|ym R R<|?_
 refine yp (Ae (s':= .d (.agg (Ms.c (Aj a)))) (Ac (Ad R R Bj R lb)) (by kernel_rfl))<|yp (Ae (s':= .d (.agg (Ms.c (⟨(Aj a).h,(Aj a).tempi,(Aj a).cells.set 0 (⟨x.clefs++ [(⟨5,0⟩:Cf)],x.voices.set 0 (⟨y.evs.set 0 {e with site:=site},y.tups⟩:Vo)⟩:Ce)⟩:Ms)))) (Ac (Ad R R Bj R lb)) (by kernel_rfl))<|?_
 refine ChK.cons R (CStep.call R (An5 (Rs _ _) (Atp hx (by rw [List.length_append];simp))) R)<|yp (D2 R R)<|yp (Be R R (by conv=>lhs;whnf))<|?_
 refine ym R R<|yp (Aa R R Bm)<|yp (Ab R R Df R R)<|yp (Ao (k:=0) R R R Em (hx))<|yp (Ae (s':= .d (.agg (Ce.c x))) (Ay R R F2 lb) (by kernel_rfl))<|ChK.cons R (CStep.call R (Aqx _ hcf) R)<|yp (Aa R R Bm)<|yp (Ab R R Df R R)<|yp (Ao (k:=0) R R R Em (hx))<|?_
 refine yp (Ae (s':= .d (.agg (Ce.c x))) (Ay R R F2 lb) (by kernel_rfl))<|ChK.cons R (CStep.call R (P2 (Agg _ _) R) R)<|yp (Be R R (by conv=>lhs;whnf))<|?_
 refine ya R R<|?_
 refine ChK.nil ⟨by kernel_rfl, ?_⟩
 exact zt<|z1 R R (R)
 exact zi<|zr<|za R R<|zn<|zt<|z1 R R (R)
 exact zk 10 R<|zq R R R<|zn<|A8 (by kernel_rfl) R<|zi<|zr<|za R R<|zn<|zt<|z1 R R (R)
 exact zk 7 R<|zq R R R<|zm R R<|zk 10 R<|zq R R R<|zn<|A8 (by kernel_rfl) R<|zi<|zr<|za R R<|zn<|zt<|z1 R R (R)
end Go.Proofs.YtaafemnkamfgnaaGreat
