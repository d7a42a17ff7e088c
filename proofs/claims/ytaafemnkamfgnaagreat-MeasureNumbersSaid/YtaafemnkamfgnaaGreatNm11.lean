/- Part 11 of what the statements need: lemmas and walks. -/
import Derived.Test.YtaafemnkamfgnaaGreatNm10
set_option linter.unusedVariables false
set_option linter.unusedSimpArgs false
set_option linter.unusedSectionVars false
set_option maxRecDepth 20000
set_option maxHeartbeats 8000000
namespace Go.Proofs.YtaafemnkamfgnaaGreat
open Go.RowKit
theorem Akj (m:Ms) (s b:Int) (hF:m.fit) (hb0: -1099511627776≤b) (hb1:b≤1099511627776):XC Tryz.prog 42 [.agg (Ms.c m), .v (.int .i64 s), .v (.int .i64 b)] (fun r=>r= .tup [.agg (Ms.c (Cs m s b)),dI (Anp m b)]):=by
 have hcl:=hF.cells
 refine Am Ae7 Tryz.func42 R R lb<|zr<|?_
 refine XL.step R (An 3 (l:= [.d (dI m.h.site), .d (dI m.h.num), .d (dI m.h.m.count), .d (dI m.h.m.unit), .d (dI m.h.m.g0), .d (dI m.h.m.g1), .d (dI m.h.m.g2), .d (dI m.h.m.g3), .d (dI m.h.m.g4), .d (dI m.h.m.g5), .d (dI m.h.len), .d (dI m.h.fifths), .d (dB m.h.start), .d (dI m.h.fin), .d (dI m.h.ends), .d (dI m.h.jump), .d (dI m.h.labels), .d (dI m.h.swing), .d (dI m.h.brk), .d (.v (.string ⟨m.h.reh.toArray⟩)), .d (.sl 3 (m.tempi.map Tm.c)), .d (.sl 2 (m.cells.map Ce.c))]) R R (by kernel_rfl))<|?_
 refine XL.step R (An 4 (l:= [.d (dI s)]) R R (by kernel_rfl))<|XL.step R (An 5 (l:= [.d (dI b)]) R R (by kernel_rfl))<|?_
 refine XL.step R (Ap 6 (l:= [.d (dI 0), .d (dI 0), .d (dI 0), .d (dI 0), .d (dI 0), .d (dI 0), .d (dI 0), .d (dI 0), .d (dI 0), .d (dI 0), .d (dI 0), .d (dI 0), .d (dB false), .d (dI 0), .d (dI 0), .d (dI 0), .d (dI 0), .d (dI 0), .d (dI 0), .d (.v (.string ⟨#[]⟩)), .d (.v (.slice none 0 0)), .d (.v (.slice none 0 0))]) R Et (by kernel_rfl))<|za R R<|znr<|?_
 refine zp (Ae (s':= .d (.agg (Ms.c m))) (Ac (Ad R R Bz R lb)) (by kernel_rfl))<|XL.callS R R (Xc _ (by assumption)) R<|?_
 refine XL.step R (Ap 8 (l:= [.d (dI 0), .d (dI 0), .d (dI 0), .d (dI 0), .d (dI 0), .d (dI 0), .d (dI 0), .d (dI 0), .d (dI 0), .d (dI 0), .d (dI 0), .d (dI 0), .d (dB false), .d (dI 0), .d (dI 0), .d (dI 0), .d (dI 0), .d (dI 0), .d (dI 0), .d (.v (.string ⟨#[]⟩)), .d (.v (.slice none 0 0)), .d (.v (.slice none 0 0))]) R Et (by kernel_rfl))<|?_
 refine XL.step R (Af (l':= [.d (dI (m.h).site), .d (dI (m.h).num), .d (dI (m.h).m.count), .d (dI (m.h).m.unit), .d (dI (m.h).m.g0), .d (dI (m.h).m.g1), .d (dI (m.h).m.g2), .d (dI (m.h).m.g3), .d (dI (m.h).m.g4), .d (dI (m.h).m.g5), .d (dI (m.h).len), .d (dI (m.h).fifths), .d (dB (m.h).start), .d (dI (m.h).fin), .d (dI (m.h).ends), .d (dI (m.h).jump), .d (dI (m.h).labels), .d (dI (m.h).swing), .d (dI (m.h).brk), .d (.v (.string ⟨(m.h).reh.toArray⟩)), .own 7401, .own 7402]) R R R R Ff R lb (by kernel_rfl))<|?_
 refine znr<|zp (Ahu R)<|XL.inl 900001 [(5, .ptr 5 0 0),(6, .ptr 6 0 0),(7, .d (dI 0)),(8, .ptr 8 0 0)] R R .d Tf Tryz.func84 R R lb (by simp only [List.forall_mem_cons];exact ⟨⟨Nat.le_of_ble_eq_true rfl,rfl⟩,⟨⟨Nat.le_of_ble_eq_true rfl,rfl⟩,⟨⟨Nat.le_of_ble_eq_true rfl,rfl⟩,⟨⟨Nat.le_of_ble_eq_true rfl,rfl⟩,fun p hp=>(by cases hp)⟩⟩⟩⟩) fun u1=>zr<|?_
 refine zp (Ar R (by conv=>lhs;whnf))<|?_
 refine zp (Eb R R)<|zp (Aa R R Bu)<|zp (Ab R R Dr R R)<|zp (Ae (s':= .d (dI m.cells.length)) (I7 R R R Tryz.underlying28) (sI (by rw [List.length_map])))<|zm R R<|zn<|Ah<|?_
 refine Av (α:=Nat) (fun k=>k≤m.cells.length) (fun k=>mkF [(0, .ptr 8 0 0),(1, .fn 85 [] [.ptr 4 0 0, .ptr 5 0 0]),(12, .d (dI m.cells.length)),(13, .d (dI k))]) (fun k=>mkH [(4, .box [.d (dI s)]),(5, .box [.d (dI (Bc Bv b (m.cells.take k)))]),(6, .box [.d (dI 0), .d (dI 0), .d (dI 0), .d (dI 0), .d (dI 0), .d (dI 0), .d (dI 0), .d (dI 0), .d (dI 0), .d (dI 0), .d (dI 0), .d (dI 0), .d (dB false), .d (dI 0), .d (dI 0), .d (dI 0), .d (dI 0), .d (dI 0), .d (dI 0), .d (.v (.string ⟨#[]⟩)), .d (.v (.slice none 0 0)), .d (.v (.slice none 0 0))]),(8, .box [.d (dI (m.h).site), .d (dI (m.h).num), .d (dI (m.h).m.count), .d (dI (m.h).m.unit), .d (dI (m.h).m.g0), .d (dI (m.h).m.g1), .d (dI (m.h).m.g2), .d (dI (m.h).m.g3), .d (dI (m.h).m.g4), .d (dI (m.h).m.g5), .d (dI (m.h).len), .d (dI (m.h).fifths), .d (dB (m.h).start), .d (dI (m.h).fin), .d (dI (m.h).ends), .d (dI (m.h).jump), .d (dI (m.h).labels), .d (dI (m.h).swing), .d (dI (m.h).brk), .d (.v (.string ⟨(m.h).reh.toArray⟩)), .own 7401, .own 7402]),(7401, .row 119 3 ((m.tempi).map Tm.c)),(7402, .tree 78 2 [] (mix Ce.u Ce.t (Da (F5 s) Bv b (m.cells.take k)) (m.cells.drop k))),(900001, .ghost u1 [(5, .ptr 5 0 0),(6, .ptr 6 0 0),(7, .d (dI 0)),(8, .ptr 8 0 0)])]) (fun k=>m.cells.length - k) (0) (Nat.zero_le _) ?_ ?_ ?_
 exact fz ⟨sr,sr,sr,sr,trivial⟩
 exact gz ⟨R,R,R,R,R,R,R,trivial⟩
 intro k hk0
 have hk:=hk0
 refine zr<|zp (As R R R)<|zn<|zs<|?_
 refine zd R (fun c14=> ?_) (fun c14=> ?_)
 have hkl:k<m.cells.length:=by omega
 obtain ⟨x,hx⟩:=At hkl
 have hcf:=hF.c x (List.mem_of_getElem? hx)
 have hvl:=hcf.voices
 have hka:=G4 (f:=F5 s) (g:=Bv) (b:=b) hk
 have hbc:=Ja (g:=Bv) (n:=1000000) (by decide) (b:=b) (l:=m.cells.take k) (fun b x hx=>Af5 (hF.c x (List.mem_of_mem_take hx)) b)
 rw [List.length_take] at hbc
 refine zi<|zs<|Ah<|zr<|zm R R<|za R R<|zn<|zs<|To (i:=7402) (j:=7502) (k:=k) (m:=1) (l':=(mix Ce.u Ce.t (Da (F5 s) Bv b (m.cells.take k)) (m.cells.drop k)).set k [.row 84 2 (((x.clefs).map Cf.c).map (·.map T.d)), .own 7502]) [] (x.voices.map Vo.t) R R R (Eq hka hx) R (Vos.t_in [] _) (R)<|?_
 refine Hr (i:=7402) (j:=7501) (k:=k) (m:=0) (l':=(mix Ce.u Ce.t (Da (F5 s) Bv b (m.cells.take k)) (m.cells.drop k)).set k [.own 7501, .own 7502]) ((x.clefs).map Cf.c) R R R (Cn (Eq hka hx)) R (List.set_set ..)<|Ag (by kernel_rfl)<|zp (Ar R (by conv=>lhs;whnf))<|?_
 refine zp (Eb R R)<|zp (Aa R R Bu)<|zp (Ab R R Dr R R)<|zm R R<|zp (F9 R R R (R) R Fh (Lm (Mr hka hx)))<|zp (Aa R R Co)<|zp (Ae (s':= .own 7502) (Em R R Ep R (Cn (Eq hka hx)) R) R)<|zp (Ae (s':= .d (dI x.voices.length)) (I7 R R R Tryz.underlying76) (sI (by rw [List.length_map])))<|zm R R<|zn<|?_
 refine Ah<|?_
 refine Av (α:=Nat) (fun j=>j≤x.voices.length) (fun j=>mkF [(0, .ptr 8 0 0),(1, .fn 85 [] [.ptr 4 0 0, .ptr 5 0 0]),(4, .d (dI k)),(12, .d (dI m.cells.length)),(13, .d (dI k)),(24, .d (dI x.voices.length)),(25, .d (dI j))]) (fun j=>mkH [(4, .box [.d (dI s)]),(5, .box [.d (dI (Bc Cw (Bc Bv b (m.cells.take k)) (x.voices.take j)))]),(6, .box [.d (dI 0), .d (dI 0), .d (dI 0), .d (dI 0), .d (dI 0), .d (dI 0), .d (dI 0), .d (dI 0), .d (dI 0), .d (dI 0), .d (dI 0), .d (dI 0), .d (dB false), .d (dI 0), .d (dI 0), .d (dI 0), .d (dI 0), .d (dI 0), .d (dI 0), .d (.v (.string ⟨#[]⟩)), .d (.v (.slice none 0 0)), .d (.v (.slice none 0 0))]),(8, .box [.d (dI (m.h).site), .d (dI (m.h).num), .d (dI (m.h).m.count), .d (dI (m.h).m.unit), .d (dI (m.h).m.g0), .d (dI (m.h).m.g1), .d (dI (m.h).m.g2), .d (dI (m.h).m.g3), .d (dI (m.h).m.g4), .d (dI (m.h).m.g5), .d (dI (m.h).len), .d (dI (m.h).fifths), .d (dB (m.h).start), .d (dI (m.h).fin), .d (dI (m.h).ends), .d (dI (m.h).jump), .d (dI (m.h).labels), .d (dI (m.h).swing), .d (dI (m.h).brk), .d (.v (.string ⟨(m.h).reh.toArray⟩)), .own 7401, .own 7402]),(7401, .row 119 3 ((m.tempi).map Tm.c)),(7402, .tree 78 2 [7501,7502] ((mix Ce.u Ce.t (Da (F5 s) Bv b (m.cells.take k)) (m.cells.drop k)).set k [.own 7501, .own 7502])),(7501, .row 84 2 ((x.clefs).map Cf.c)),(7502, .tree 82 2 [] (mix Vo.u Vo.t (Da (F4 s) Cw (Bc Bv b (m.cells.take k)) (x.voices.take j)) (x.voices.drop j))),(900001, .ghost u1 [(5, .ptr 5 0 0),(6, .ptr 6 0 0),(7, .d (dI 0)),(8, .ptr 8 0 0)])]) (fun j=>x.voices.length - j) (0) (Nat.zero_le _) ?_ ?_ ?_
 exact fz ⟨sr,sr,sr,sr,sr,sr,sr,trivial⟩
 exact gz ⟨R,R,R,R,R,R,R,R,R,trivial⟩
 intro j hk2
 have hj:=hk2
 refine zr<|zp (As R R R)<|zn<|zs<|?_
 refine zd R (fun c26=> ?_) (fun c26=> ?_)
 have hjl:j<x.voices.length:=by omega
 obtain ⟨w,hw⟩:=At hjl
 have hvf:=hcf.v w (List.mem_of_getElem? hw)
 have hel:=hvf.evs
 have hja:=G4 (f:=F4 s) (g:=Cw) (b:=(Bc Bv b (m.cells.take k))) hj
 have hbv:=Ja (g:=Cw) (n:=1000) (by decide) (b:=(Bc Bv b (m.cells.take k))) (l:=x.voices.take j) (fun b v hv=>Vu (hcf.v v (List.mem_of_mem_take hv)) b)
 rw [List.length_take] at hbv
 refine zi<|zs<|Ah<|zr<|zm R R<|za R R<|zn<|zs<|Hr (i:=7502) (j:=7601) (k:=j) (m:=0) (l':=(mix Vo.u Vo.t (Da (F4 s) Cw (Bc Bv b (m.cells.take k)) (x.voices.take j)) (x.voices.drop j)).set j [.own 7601, .row 157 4 (((w.tups).map Tp.c).map (·.map T.d))]) ((w.evs).map Ev.c) R R R (Eq hja hw) R (R)<|?_
 refine Hr (i:=7502) (j:=7602) (k:=j) (m:=1) (l':=(mix Vo.u Vo.t (Da (F4 s) Cw (Bc Bv b (m.cells.take k)) (x.voices.take j)) (x.voices.drop j)).set j [.own 7601, .own 7602]) ((w.tups).map Tp.c) R R R (Cn (Eq hja hw)) R (List.set_set ..)<|Ag (by kernel_rfl)<|zp (Ar R (by conv=>lhs;whnf))<|?_
 refine zp (Eb R R)<|zp (Aa R R Bu)<|zp (Ab R R Dr R R)<|zm R R<|zp (F9 R R R (R) R Fh (Lm (Mr hka hx)))<|zp (Aa R R Co)<|zp (Ae (s':= .own 7502) (Em R R Ep R (Cn (Eq hka hx)) R) R)<|zm R R<|zp (F9 R R R (R) R Ii (Lm (Mr hja hw)))<|zp (Aa R R Bl)<|?_
 refine zp (Ae (s':= .own 7601) (Em R R Cy R (Cn (Eq hja hw)) R) R)<|zp (Au R (by conv=>lhs;whnf))<|?_
 refine znr<|zp (Ar R (by conv=>lhs;whnf))<|?_
 refine zp (B5 R R R Tryz.underlying79)<|zm R R<|zn<|Ah<|?_
 refine Av (α:=Nat) (fun n=>n≤w.evs.length) (fun n=>mkF [(0, .ptr 8 0 0),(1, .fn 85 [] [.ptr 4 0 0, .ptr 5 0 0]),(4, .d (dI k)),(6, .own 7601),(12, .d (dI m.cells.length)),(13, .d (dI k)),(24, .d (dI x.voices.length)),(25, .d (dI j)),(41, .d (dI w.evs.length)),(42, .d (dI n))]) (fun n=>mkH [(4, .box [.d (dI s)]),(5, .box [.d (dI (Bc Fm (Bc Cw (Bc Bv b (m.cells.take k)) (x.voices.take j)) (w.evs.take n)))]),(6, .box [.d (dI 0), .d (dI 0), .d (dI 0), .d (dI 0), .d (dI 0), .d (dI 0), .d (dI 0), .d (dI 0), .d (dI 0), .d (dI 0), .d (dI 0), .d (dI 0), .d (dB false), .d (dI 0), .d (dI 0), .d (dI 0), .d (dI 0), .d (dI 0), .d (dI 0), .d (.v (.string ⟨#[]⟩)), .d (.v (.slice none 0 0)), .d (.v (.slice none 0 0))]),(8, .box [.d (dI (m.h).site), .d (dI (m.h).num), .d (dI (m.h).m.count), .d (dI (m.h).m.unit), .d (dI (m.h).m.g0), .d (dI (m.h).m.g1), .d (dI (m.h).m.g2), .d (dI (m.h).m.g3), .d (dI (m.h).m.g4), .d (dI (m.h).m.g5), .d (dI (m.h).len), .d (dI (m.h).fifths), .d (dB (m.h).start), .d (dI (m.h).fin), .d (dI (m.h).ends), .d (dI (m.h).jump), .d (dI (m.h).labels), .d (dI (m.h).swing), .d (dI (m.h).brk), .d (.v (.string ⟨(m.h).reh.toArray⟩)), .own 7401, .own 7402]),(7401, .row 119 3 ((m.tempi).map Tm.c)),(7402, .tree 78 2 [7501,7502] ((mix Ce.u Ce.t (Da (F5 s) Bv b (m.cells.take k)) (m.cells.drop k)).set k [.own 7501, .own 7502])),(7501, .row 84 2 ((x.clefs).map Cf.c)),(7502, .tree 82 2 [7602,7601] ((mix Vo.u Vo.t (Da (F4 s) Cw (Bc Bv b (m.cells.take k)) (x.voices.take j)) (x.voices.drop j)).set j [.own 7601, .own 7602])),(7601, .row 59 13 ((K1 (Jt s) Fm (Bc Cw (Bc Bv b (m.cells.take k)) (x.voices.take j)) w.evs n).map Ev.c)),(7602, .row 157 4 ((w.tups).map Tp.c)),(900001, .ghost u1 [(5, .ptr 5 0 0),(6, .ptr 6 0 0),(7, .d (dI 0)),(8, .ptr 8 0 0)])]) (fun n=>w.evs.length - n) (0) (Nat.zero_le _) ?_ ?_ ?_
 exact fz ⟨sr,sr,sr,sr,sr,sr,sr,sr,sr,sr,trivial⟩
 exact gz ⟨R,R,R,R,R,R,R,R,Hh Aks,R,R,trivial⟩
 intro n hk4
 have hn:=hk4
 refine zr<|zp (As R R R)<|zn<|zs<|?_
 refine zd R (fun c43=> ?_) (fun c43=> ?_)
 have hml:=Pt (f:=Jt s) (g:=Fm) (b:=(Bc Cw (Bc Bv b (m.cells.take k)) (x.voices.take j))) (l:=w.evs) (k:=n)
 have hnl:n<w.evs.length:=by omega
 obtain ⟨e,he⟩:=At hnl
 have hg:=Zy (f:=Jt s) (g:=Fm) (b:=(Bc Cw (Bc Bv b (m.cells.take k)) (x.voices.take j))) he
 have hbe:=Ja (g:=Fm) (n:=1) (by decide) (b:=(Bc Cw (Bc Bv b (m.cells.take k)) (x.voices.take j))) (l:=w.evs.take n) (fun b e _=>Vv b e)
 rw [List.length_take] at hbe
 refine zi<|zs<|Ah<|zr<|zm R R<|za R R<|zng<|zp (Ar R (by conv=>lhs;whnf))<|?_
 refine zp (Ar R (by conv=>lhs;whnf))<|?_
 refine zm R R<|zp (Cm R R R (R) R E8 (by omega))<|?_
 refine XL.inl 900002 [(0, .ptr 8 0 0),(1, .fn 85 [] [.ptr 4 0 0, .ptr 5 0 0]),(4, .d (dI k)),(6, .own 7601),(12, .d (dI m.cells.length)),(13, .d (dI k)),(24, .d (dI x.voices.length)),(25, .d (dI j)),(41, .d (dI w.evs.length)),(42, .d (dI n))] R R .s Aeb Tryz.func85 R R lb (by simp only [List.forall_mem_cons];exact ⟨⟨Nat.le_of_ble_eq_true rfl,rfl⟩,⟨⟨Nat.le_of_ble_eq_true rfl,rfl⟩,⟨⟨Nat.le_of_ble_eq_true rfl,rfl⟩,⟨⟨Nat.le_of_ble_eq_true rfl,rfl⟩,⟨⟨Nat.le_of_ble_eq_true rfl,rfl⟩,⟨⟨Nat.le_of_ble_eq_true rfl,rfl⟩,⟨⟨Nat.le_of_ble_eq_true rfl,rfl⟩,⟨⟨Nat.le_of_ble_eq_true rfl,rfl⟩,⟨⟨Nat.le_of_ble_eq_true rfl,rfl⟩,⟨⟨Nat.le_of_ble_eq_true rfl,rfl⟩,fun p hp=>(by cases hp)⟩⟩⟩⟩⟩⟩⟩⟩⟩⟩) fun u2=>?_
 refine zr<|zp (Ar R (by conv=>lhs;whnf))<|?_
 refine zp (Eb R R)<|zp (Aa R R Gh)<|zp (Ed R R Gi R (C4 hg) lb)<|zp (Ae (s':= .d (.agg [dI 0,dI 0])) (Ac (A7 R M3 He R)) (by kernel_rfl))<|zp (Tz R R R)<|zn<|?_
 refine zd R (fun c9c=> ?_) (fun c9c=> ?_)
 refine zr<|zp (Ar R (by conv=>lhs;whnf))<|?_
 refine zp (Ab R R Ai R R)<|zp (Ab R R Ai R R)<|zp (Ae (s':= .d (.agg [dI s,dI (Bc Fm (Bc Cw (Bc Bv b (m.cells.take k)) (x.voices.take j)) (w.evs.take n))])) (Ac (A7 R M3 He R)) (by kernel_rfl))<|zp (Eb R R)<|zp (Aa R R Gh)<|XL.step R (Ek R R R (C4 hg) R R Sd R lb)<|zng<|zp (Ab R R Ai R R)<|?_
 refine zp (Ak R R R (by omega) (by omega))<|XL.step R (Af (l':= [.d (dI ((Bc Fm (Bc Cw (Bc Bv b (m.cells.take k)) (x.voices.take j)) (w.evs.take n))+1))]) R R R R Ey R lb (by kernel_rfl))<|zn<|?_
 refine (Dj (l:= [(0, .ptr 8 0 0),(1, .fn 85 [] [.ptr 4 0 0, .ptr 5 0 0]),(4, .d (dI k)),(6, .own 7601),(12, .d (dI m.cells.length)),(13, .d (dI k)),(24, .d (dI x.voices.length)),(25, .d (dI j)),(41, .d (dI w.evs.length)),(42, .d (dI n))]) (by kernel_rfl) (rs0 R R) ?_).1
 refine zn<|Ag (by kernel_rfl)<|zp (Ak R R R (by omega) (by omega))<|zm R R<|zn<|?_
 exact Al (n+1) (by omega) (by omega) (fz ⟨sr,sr,sr,sr,sr,sr,sr,sr,sr,sr,trivial⟩) (gz ⟨R,by rw [Ho he,Fm,if_pos c9c];rfl,rfl,rfl,rfl,rfl,rfl,rfl,Og (a:=Jt s (Bc Fm (Bc Cw (Bc Bv b (m.cells.take k)) (x.voices.take j)) (w.evs.take n)) e) (by rw [Jt,if_pos c9c];rfl) (Ps he),rfl,rfl,trivial⟩)
 refine zi<|?_
 refine (Dj (l:= [(0, .ptr 8 0 0),(1, .fn 85 [] [.ptr 4 0 0, .ptr 5 0 0]),(4, .d (dI k)),(6, .own 7601),(12, .d (dI m.cells.length)),(13, .d (dI k)),(24, .d (dI x.voices.length)),(25, .d (dI j)),(41, .d (dI w.evs.length)),(42, .d (dI n))]) (by kernel_rfl) (rs0 R R) ?_).1
 refine zn<|Ag (by kernel_rfl)<|zp (Ak R R R (by omega) (by omega))<|zm R R<|zn<|?_
 exact Al (n+1) (by omega) (by omega) (fz ⟨sr,sr,sr,sr,sr,sr,sr,sr,sr,sr,trivial⟩) (gz ⟨R,by rw [Ho he,Fm,if_neg c9c];rfl,rfl,rfl,rfl,rfl,rfl,rfl,Hh (by rw [Ps he,Jt,if_neg c9c];exact (set_same hg).symm),rfl,rfl,trivial⟩)
 have hml:=Pt (f:=Jt s) (g:=Fm) (b:=(Bc Cw (Bc Bv b (m.cells.take k)) (x.voices.take j))) (l:=w.evs) (k:=n)
 have hne:¬n<w.evs.length:=by omega
 refine Aq<|Ag (by kernel_rfl)<|XL.rowq (i:=7601) (l':=((F4 s (Bc Cw (Bc Bv b (m.cells.take k)) (x.voices.take j)) w).evs).map Ev.c) R (by rw [Zz (by omega)];rfl)<|XL.freeze (i:=7601) R<|?_
 refine XL.rowqT (i:=7502) (l':=(mix Vo.u Vo.t (Da (F4 s) Cw (Bc Bv b (m.cells.take k)) (x.voices.take j)) (x.voices.drop j)).set j [.d (.sl 13 (((F4 s (Bc Cw (Bc Bv b (m.cells.take k)) (x.voices.take j)) w).evs).map Ev.c)), .own 7602]) [7602] R (H9 (F0 [] _ _) R) (Dh (F0 [] _ _) (E4 (R) (R)) _)<|XL.freeze (i:=7602) R<|?_
 refine XL.rowqT (i:=7502) (l':=(mix Vo.u Vo.t (Da (F4 s) Cw (Bc Bv b (m.cells.take k)) (x.voices.take j)) (x.voices.drop j)).set j [.d (.sl 13 (((F4 s (Bc Cw (Bc Bv b (m.cells.take k)) (x.voices.take j)) w).evs).map Ev.c)), .d (.sl 4 (w.tups.map Tp.c))]) [] R (H9 (F0 [] _ _) R) (Dh (F0 [] _ _) (E4 (R) (R)) _)<|?_
 refine XL.rowqT (i:=7502) (l':=mix Vo.u Vo.t (Da (F4 s) Cw (Bc Bv b (m.cells.take k)) (x.voices.take (j+1))) (x.voices.drop (j+1))) [] R (by rw [Ls hw];exact Si (y:=F4 s (Bc Cw (Bc Bv b (m.cells.take k)) (x.voices.take j)) w) hja hw) (F0 [] _ _)<|zp (Ak R R R (by omega) (by omega))<|zm R R<|zn<|?_
 exact Al (j+1) (by omega) (by omega) (fz ⟨sr,sr,sr,sr,sr,sr,sr,trivial⟩) (gz ⟨R,by rw [Ho hw,Cw,show w.evs.take n=w.evs from List.take_of_length_le (by omega)];rfl,rfl,rfl,rfl,rfl,rfl,rfl,rfl,trivial⟩)
 refine Aq<|Ag (by kernel_rfl)<|XL.freezeT (i:=7502) R (Vy _ _) (by rw [Zv,List.drop_of_length_le (by omega),List.append_nil,show x.voices.take j=x.voices from List.take_of_length_le (by omega)])<|?_
 refine XL.rowqT (i:=7402) (l':=(mix Ce.u Ce.t (Da (F5 s) Bv b (m.cells.take k)) (m.cells.drop k)).set k [.own 7501, .d (.sl 2 ((F5 s (Bc Bv b (m.cells.take k)) x).voices.map Vo.c))]) [7501] R (H9 (Eg [] _ _) R) (Dh (Eg [] _ _) (E4 (R) (R)) _)<|XL.freeze (i:=7501) R<|?_
 refine XL.rowqT (i:=7402) (l':=(mix Ce.u Ce.t (Da (F5 s) Bv b (m.cells.take k)) (m.cells.drop k)).set k [.d (.sl 2 (x.clefs.map Cf.c)), .d (.sl 2 ((F5 s (Bc Bv b (m.cells.take k)) x).voices.map Vo.c))]) [] R (H9 (Eg [] _ _) R) (Dh (Eg [] _ _) (E4 (R) (R)) _)<|?_
 refine XL.rowqT (i:=7402) (l':=mix Ce.u Ce.t (Da (F5 s) Bv b (m.cells.take (k+1))) (m.cells.drop (k+1))) [] R (by rw [Ls hx];exact Si (y:=F5 s (Bc Bv b (m.cells.take k)) x) hka hx) (Eg [] _ _)<|zp (Ak R R R (by omega) (by omega))<|zm R R<|zn<|?_
 exact Al (k+1) (by omega) (by omega) (fz ⟨sr,sr,sr,sr,trivial⟩) (gz ⟨R,by rw [Ho hx,Bv,show x.voices.take j=x.voices from List.take_of_length_le (by omega)];rfl,rfl,rfl,rfl,rfl,rfl,trivial⟩)
 refine Aq<|?_
 refine (Dj (l:= [(5, .ptr 5 0 0),(6, .ptr 6 0 0),(7, .d (dI 0)),(8, .ptr 8 0 0)]) (by kernel_rfl) (rs0 R R) ?_).1
 refine zn<|zs<|Ns (i:=7401) R<|Ui (i:=7402) R (Sj _ _) (by rw [U5,List.drop_of_length_le (by omega),List.append_nil,show m.cells.take k=m.cells from List.take_of_length_le (by omega)])<|?_
 refine Ks 2 3 [] id 6 (Ri 6 (.box [.d (dI (m.h).site), .d (dI (m.h).num), .d (dI (m.h).m.count), .d (dI (m.h).m.unit), .d (dI (m.h).m.g0), .d (dI (m.h).m.g1), .d (dI (m.h).m.g2), .d (dI (m.h).m.g3), .d (dI (m.h).m.g4), .d (dI (m.h).m.g5), .d (dI (m.h).len), .d (dI (m.h).fifths), .d (dB (m.h).start), .d (dI (m.h).fin), .d (dI (m.h).ends), .d (dI (m.h).jump), .d (dI (m.h).labels), .d (dI (m.h).swing), .d (dI (m.h).brk), .d (.v (.string ⟨(m.h).reh.toArray⟩)), .d (.sl 3 (m.tempi.map Tm.c)), .d (.sl 2 ((Cs m s b).cells.map Ce.c))])) (by kernel_rfl) (by kernel_rfl) (by kernel_rfl) (by kernel_rfl) R (by decide)<|?_
 refine ChMK.bf R (CStep.pure (Ae (s':= .d (.agg [dI (m.h).site,dI (m.h).num,dI (m.h).m.count,dI (m.h).m.unit,dI (m.h).m.g0,dI (m.h).m.g1,dI (m.h).m.g2,dI (m.h).m.g3,dI (m.h).m.g4,dI (m.h).m.g5,dI (m.h).len,dI (m.h).fifths,dB (m.h).start,dI (m.h).fin,dI (m.h).ends,dI (m.h).jump,dI (m.h).labels,dI (m.h).swing,dI (m.h).brk, .v (.string ⟨(m.h).reh.toArray⟩), .sl 3 (m.tempi.map Tm.c), .sl 2 ((Cs m s b).cells.map Ce.c)])) (Ac (Ad R R Bz R lb)) (by kernel_rfl))) (by conv=>lhs;whnf)<|?_
 refine ChMK.fr R R (CStep.pure (Ab R R Ai R R)) (CStep.pure (Ab R R Ai R R)) (by exact rfl)<|?_
 refine ChMK.mu R (Agb (l2:= [.d (dI (m.h).site), .d (dI (m.h).num), .d (dI (m.h).m.count), .d (dI (m.h).m.unit), .d (dI (m.h).m.g0), .d (dI (m.h).m.g1), .d (dI (m.h).m.g2), .d (dI (m.h).m.g3), .d (dI (m.h).m.g4), .d (dI (m.h).m.g5), .d (dI (m.h).len), .d (dI (m.h).fifths), .d (dB (m.h).start), .d (dI (m.h).fin), .d (dI (m.h).ends), .d (dI (m.h).jump), .d (dI (m.h).labels), .d (dI (m.h).swing), .d (dI (m.h).brk), .d (.v (.string ⟨(m.h).reh.toArray⟩)), .d (.sl 3 (m.tempi.map Tm.c)), .d (.sl 2 ((Cs m s b).cells.map Ce.c))]) R R R R Ff R lb (by kernel_rfl))<|?_
 refine ChMK.nil ⟨⟨by kernel_rfl,by kernel_rfl,by kernel_rfl⟩, ?_⟩
 refine za R R<|zn<|zt<|?_
 exact A6 R (RV.cells R R R Bz lb R) (RV.tmp R R) (by rw [show m.cells.take k=m.cells from List.take_of_length_le (by omega)];rfl)
end Go.Proofs.YtaafemnkamfgnaaGreat
namespace Go.Proofs.YtaafemnkamfgnaaGreat
open Go.RowKit
theorem Ajr (m:Ms):(Ax m).room:=fun c hc v hv e he=>by
 obtain ⟨x,_,rfl⟩:=List.mem_map.1 hc
 obtain ⟨y,_,rfl⟩:=List.mem_map.1 hv
 obtain ⟨z,_,rfl⟩:=List.mem_map.1 he
 refine ⟨?_, ?_, ?_⟩
 ·show (z.heads.take 5).length*40≤_;rw [List.length_take];omega
 ·show (z.graces.take 4).length*40≤_;rw [List.length_take];omega
 ·show ((z.lyr.take 5).map J9).length*24≤_;rw [List.length_map,List.length_take];omega
theorem Akv (m:Ms) (s b:Int) (hb0: -1099511627776≤b) (hb1:b≤1099511627776):XC Tryz.prog 43 [.agg (Ms.c (Ax m)),dI s,dI b] (fun r=>r= .tup [.agg (Ms.c (Cs (Ax m) s b)),dI (Anp (Ax m) b)]):=by
 have:=Ah7 (Ax m) s b (Ajr m) hb0 hb1
 rw [Asz] at this
 exact this
theorem Aib (m:Ms) (s b:Int) (hR:m.room) (hb: -9223372036854775808≤b∧b≤9223372036854775807):XC Tryz.prog 11 [.agg (Ms.c m), .v (.int .i64 s), .v (.int .i64 b)] (fun r=>r=dB true):=by
 have hF:=Y8 m
 have hcl:=hF.cells
 refine Am Afj Tryz.func11 R R lb<|zr<|?_
 refine XL.step R (An 3 (l:= [.d (dI m.h.site), .d (dI m.h.num), .d (dI m.h.m.count), .d (dI m.h.m.unit), .d (dI m.h.m.g0), .d (dI m.h.m.g1), .d (dI m.h.m.g2), .d (dI m.h.m.g3), .d (dI m.h.m.g4), .d (dI m.h.m.g5), .d (dI m.h.len), .d (dI m.h.fifths), .d (dB m.h.start), .d (dI m.h.fin), .d (dI m.h.ends), .d (dI m.h.jump), .d (dI m.h.labels), .d (dI m.h.swing), .d (dI m.h.brk), .d (.v (.string ⟨m.h.reh.toArray⟩)), .d (.sl 3 (m.tempi.map Tm.c)), .d (.sl 2 (m.cells.map Ce.c))]) R R (by kernel_rfl))<|?_
 refine za R R<|znr<|zp (Ae (s':= .d (.agg (Ms.c m))) (Ac (Ad R R Bz R lb)) (by kernel_rfl))<|XL.call1 R R (Amy _ (by assumption)) R<|?_
 refine XL.step R (Af (l':= [.d (dI (Ax m).h.site), .d (dI (Ax m).h.num), .d (dI (Ax m).h.m.count), .d (dI (Ax m).h.m.unit), .d (dI (Ax m).h.m.g0), .d (dI (Ax m).h.m.g1), .d (dI (Ax m).h.m.g2), .d (dI (Ax m).h.m.g3), .d (dI (Ax m).h.m.g4), .d (dI (Ax m).h.m.g5), .d (dI (Ax m).h.len), .d (dI (Ax m).h.fifths), .d (dB (Ax m).h.start), .d (dI (Ax m).h.fin), .d (dI (Ax m).h.ends), .d (dI (Ax m).h.jump), .d (dI (Ax m).h.labels), .d (dI (Ax m).h.swing), .d (dI (Ax m).h.brk), .d (.v (.string ⟨(Ax m).h.reh.toArray⟩)), .d (.sl 3 ((Ax m).tempi.map Tm.c)), .d (.sl 2 ((Ax m).cells.map Ce.c))]) R R R R Ff R lb (by kernel_rfl))<|?_
 refine znr<|zm R R<|zp (N3 R R R)<|zp (Fs R R R)<|zm R R<|zp (N3 R R R)<|zp (Fs R R R)<|za R R<|za R R<|zn<|zs<|?_
 have hb0: -1099511627776≤(min (max b (-1099511627776)) 1099511627776):=by omega
 have hb1:(min (max b (-1099511627776)) 1099511627776)≤1099511627776:=by omega
 refine Ag (by kernel_rfl)<|zp (Ae (s':= .d (.agg (Ms.c (Ax m)))) (Ac (Ad R R Bz R lb)) (by kernel_rfl))<|zm R R<|zm R R<|XL.call1 R R (Akj _ _ _ hF hb0 hb1) R<|zm R R<|zp (Ay R R R)<|zp (Ay R R R)<|?_
 refine XL.step R (Ap 7 (l:= [.d (dI 0), .d (dI 0), .d (dI 0), .d (dI 0), .d (dI 0), .d (dI 0), .d (dI 0), .d (dI 0), .d (dI 0), .d (dI 0), .d (dI 0), .d (dI 0), .d (dB false), .d (dI 0), .d (dI 0), .d (dI 0), .d (dI 0), .d (dI 0), .d (dI 0), .d (.v (.string ⟨#[]⟩)), .d (.v (.slice none 0 0)), .d (.v (.slice none 0 0))]) R Et (by kernel_rfl))<|?_
 refine XL.step R (Af (l':= [.d (dI (Cs (Ax m) (min (max s (-1000)) 1000) (min (max b (-1099511627776)) 1099511627776)).h.site), .d (dI (Cs (Ax m) (min (max s (-1000)) 1000) (min (max b (-1099511627776)) 1099511627776)).h.num), .d (dI (Cs (Ax m) (min (max s (-1000)) 1000) (min (max b (-1099511627776)) 1099511627776)).h.m.count), .d (dI (Cs (Ax m) (min (max s (-1000)) 1000) (min (max b (-1099511627776)) 1099511627776)).h.m.unit), .d (dI (Cs (Ax m) (min (max s (-1000)) 1000) (min (max b (-1099511627776)) 1099511627776)).h.m.g0), .d (dI (Cs (Ax m) (min (max s (-1000)) 1000) (min (max b (-1099511627776)) 1099511627776)).h.m.g1), .d (dI (Cs (Ax m) (min (max s (-1000)) 1000) (min (max b (-1099511627776)) 1099511627776)).h.m.g2), .d (dI (Cs (Ax m) (min (max s (-1000)) 1000) (min (max b (-1099511627776)) 1099511627776)).h.m.g3), .d (dI (Cs (Ax m) (min (max s (-1000)) 1000) (min (max b (-1099511627776)) 1099511627776)).h.m.g4), .d (dI (Cs (Ax m) (min (max s (-1000)) 1000) (min (max b (-1099511627776)) 1099511627776)).h.m.g5), .d (dI (Cs (Ax m) (min (max s (-1000)) 1000) (min (max b (-1099511627776)) 1099511627776)).h.len), .d (dI (Cs (Ax m) (min (max s (-1000)) 1000) (min (max b (-1099511627776)) 1099511627776)).h.fifths), .d (dB (Cs (Ax m) (min (max s (-1000)) 1000) (min (max b (-1099511627776)) 1099511627776)).h.start), .d (dI (Cs (Ax m) (min (max s (-1000)) 1000) (min (max b (-1099511627776)) 1099511627776)).h.fin), .d (dI (Cs (Ax m) (min (max s (-1000)) 1000) (min (max b (-1099511627776)) 1099511627776)).h.ends), .d (dI (Cs (Ax m) (min (max s (-1000)) 1000) (min (max b (-1099511627776)) 1099511627776)).h.jump), .d (dI (Cs (Ax m) (min (max s (-1000)) 1000) (min (max b (-1099511627776)) 1099511627776)).h.labels), .d (dI (Cs (Ax m) (min (max s (-1000)) 1000) (min (max b (-1099511627776)) 1099511627776)).h.swing), .d (dI (Cs (Ax m) (min (max s (-1000)) 1000) (min (max b (-1099511627776)) 1099511627776)).h.brk), .d (.v (.string ⟨(Cs (Ax m) (min (max s (-1000)) 1000) (min (max b (-1099511627776)) 1099511627776)).h.reh.toArray⟩)), .d (.sl 3 ((Cs (Ax m) (min (max s (-1000)) 1000) (min (max b (-1099511627776)) 1099511627776)).tempi.map Tm.c)), .d (.sl 2 ((Cs (Ax m) (min (max s (-1000)) 1000) (min (max b (-1099511627776)) 1099511627776)).cells.map Ce.c))]) R R R R Ff R lb (by kernel_rfl))<|?_
 refine za R R<|znr<|zp (Ae (s':= .d (.agg (Ms.c (Ax m)))) (Ac (Ad R R Bz R lb)) (by kernel_rfl))<|zm R R<|zm R R<|XL.call1 R R (Akv m _ _ hb0 hb1) R<|zm R R<|zp (Ay R R R)<|zp (Ay R R R)<|?_
 refine XL.step R (Ap 9 (l:= [.d (dI 0), .d (dI 0), .d (dI 0), .d (dI 0), .d (dI 0), .d (dI 0), .d (dI 0), .d (dI 0), .d (dI 0), .d (dI 0), .d (dI 0), .d (dI 0), .d (dB false), .d (dI 0), .d (dI 0), .d (dI 0), .d (dI 0), .d (dI 0), .d (dI 0), .d (.v (.string ⟨#[]⟩)), .d (.v (.slice none 0 0)), .d (.v (.slice none 0 0))]) R Et (by kernel_rfl))<|?_
 refine XL.step R (Af (l':= [.d (dI (Cs (Ax m) (min (max s (-1000)) 1000) (min (max b (-1099511627776)) 1099511627776)).h.site), .d (dI (Cs (Ax m) (min (max s (-1000)) 1000) (min (max b (-1099511627776)) 1099511627776)).h.num), .d (dI (Cs (Ax m) (min (max s (-1000)) 1000) (min (max b (-1099511627776)) 1099511627776)).h.m.count), .d (dI (Cs (Ax m) (min (max s (-1000)) 1000) (min (max b (-1099511627776)) 1099511627776)).h.m.unit), .d (dI (Cs (Ax m) (min (max s (-1000)) 1000) (min (max b (-1099511627776)) 1099511627776)).h.m.g0), .d (dI (Cs (Ax m) (min (max s (-1000)) 1000) (min (max b (-1099511627776)) 1099511627776)).h.m.g1), .d (dI (Cs (Ax m) (min (max s (-1000)) 1000) (min (max b (-1099511627776)) 1099511627776)).h.m.g2), .d (dI (Cs (Ax m) (min (max s (-1000)) 1000) (min (max b (-1099511627776)) 1099511627776)).h.m.g3), .d (dI (Cs (Ax m) (min (max s (-1000)) 1000) (min (max b (-1099511627776)) 1099511627776)).h.m.g4), .d (dI (Cs (Ax m) (min (max s (-1000)) 1000) (min (max b (-1099511627776)) 1099511627776)).h.m.g5), .d (dI (Cs (Ax m) (min (max s (-1000)) 1000) (min (max b (-1099511627776)) 1099511627776)).h.len), .d (dI (Cs (Ax m) (min (max s (-1000)) 1000) (min (max b (-1099511627776)) 1099511627776)).h.fifths), .d (dB (Cs (Ax m) (min (max s (-1000)) 1000) (min (max b (-1099511627776)) 1099511627776)).h.start), .d (dI (Cs (Ax m) (min (max s (-1000)) 1000) (min (max b (-1099511627776)) 1099511627776)).h.fin), .d (dI (Cs (Ax m) (min (max s (-1000)) 1000) (min (max b (-1099511627776)) 1099511627776)).h.ends), .d (dI (Cs (Ax m) (min (max s (-1000)) 1000) (min (max b (-1099511627776)) 1099511627776)).h.jump), .d (dI (Cs (Ax m) (min (max s (-1000)) 1000) (min (max b (-1099511627776)) 1099511627776)).h.labels), .d (dI (Cs (Ax m) (min (max s (-1000)) 1000) (min (max b (-1099511627776)) 1099511627776)).h.swing), .d (dI (Cs (Ax m) (min (max s (-1000)) 1000) (min (max b (-1099511627776)) 1099511627776)).h.brk), .d (.v (.string ⟨(Cs (Ax m) (min (max s (-1000)) 1000) (min (max b (-1099511627776)) 1099511627776)).h.reh.toArray⟩)), .d (.sl 3 ((Cs (Ax m) (min (max s (-1000)) 1000) (min (max b (-1099511627776)) 1099511627776)).tempi.map Tm.c)), .d (.sl 2 ((Cs (Ax m) (min (max s (-1000)) 1000) (min (max b (-1099511627776)) 1099511627776)).cells.map Ce.c))]) R R R R Ff R lb (by kernel_rfl))<|?_
 refine za R R<|zn<|zs<|B4 [] (by kernel_rfl) (by kernel_rfl) (by kernel_rfl) (by decide)<|yp (Ae (s':= .d (.agg (Ms.c (Ax m)))) (Ac (Ad R R Bz R lb)) (by kernel_rfl))<|ChK.cons R (CStep.call R (Atv _ (by assumption)) R)<|yp (Ae (s':= .d (.agg (Ms.c (Ax m)))) (Ac (Ad R R Bz R lb)) (by kernel_rfl))<|?_
 refine ChK.cons R (CStep.call R (Ari _ (by assumption)) R)<|ya R R<|ya R R<|?_
 refine ChK.nil ⟨by kernel_rfl, ?_⟩
 refine zs<|zr<|XL.call1 R R (An3) R<|zp (D5 R R)<|zm R R<|zm R R<|zm R R<|zp (Gq (A5 R R R) (fun h=>h R))<|zq R R R<|zm R R<|zp (Ae (s':= .d (.agg (Ms.c (Cs (Ax m) (min (max s (-1000)) 1000) (min (max b (-1099511627776)) 1099511627776))))) (Ac (Ad R R Bz R lb)) (by kernel_rfl))<|?_
 refine zp (Ae (s':= .d (.agg (Ms.c (Cs (Ax m) (min (max s (-1000)) 1000) (min (max b (-1099511627776)) 1099511627776))))) (Ac (Ad R R Bz R lb)) (by kernel_rfl))<|XL.call1 R R (Ai6 (Ard _ _) R) R<|zp (D5 R R)<|zq R R R<|zm R R<|zm R R<|XL.len R R R Tryz.underlying93 fun hl56=>zm R R<|XL.len R R R Tryz.underlying93 fun hl58=>zp (Gq (A5 R R R) (fun h=>h R))<|?_
 refine zq R R R<|zn<|A8 (by kernel_rfl) R<|zi<|zs<|zr<|za R R<|zn<|Ah<|?_
 refine Av (α:=Nat) (fun k=>k≤(Pv (Ax m)).length∧(Pv (Ax m)).length≤1000000001) (fun k=>mkF [(3, .ptr 3 0 0),(11, .d (.sl 2 ((Pv (Ax m)).map Id.c))),(12, .d (.sl 2 ((Pv (Ax m)).map Id.c))),(13, .d (dI k))]) (fun k=>mkH [(3, .box ((Ms.c (Ax m)).map S.d))]) (fun k=>(Pv (Ax m)).length - k) (0) (⟨Nat.zero_le _,by rw [Pv,List.length_cons];have:=Ue (l:=(Ax m).cells) hF.c;omega⟩) ?_ ?_ ?_
 exact fz ⟨sr,sr,sr,sr,trivial⟩
 exact gz ⟨R,trivial⟩
 intro k hk0
 obtain ⟨hk,hil⟩:=hk0
 refine zs<|zr<|zm R R<|zm R R<|XL.len R R R Tryz.underlying93 fun hl63=>zp (As R R R)<|zn<|?_
 refine zd R (fun c64=> ?_) (fun c64=> ?_)
 have hkl:k<(Pv (Ax m)).length:=by omega
 obtain ⟨x,hx⟩:=At hkl
 refine zi<|zs<|Ah<|zs<|B4 [] (by kernel_rfl) (by kernel_rfl) (by kernel_rfl) (by decide)<|ym R R<|ym R R<|yp (Ao R R R Apz (hx))<|yp (Ae (s':= .d (.agg (Id.c x))) (Az R R Gi lb) (by kernel_rfl))<|ym R R<|ym R R<|yp (Ao R R R Apz (hx))<|yp (Ae (s':= .d (.agg (Id.c x))) (Az R R Gi lb) (by kernel_rfl))<|yp (Gq (Anc R R R) (by simp))<|?_
 refine ChK.nil ⟨by kernel_rfl, ?_⟩
 refine A8 (by kernel_rfl) R<|zi<|Ag (by kernel_rfl)<|zm R R<|zp (Ak R R R (by omega) (by omega))<|za R R<|zn<|?_
 exact Al (k+1) (⟨by omega,by omega⟩) (by omega) (fz ⟨sr,sr,sr,sr,trivial⟩) (gz ⟨rfl,trivial⟩)
 refine Aq<|zs<|zr<|za R R<|zn<|Ah<|?_
 refine Av (α:=Nat) (fun j=>j≤(Ax m).cells.length+2) (fun j=>mkF [(3, .ptr 3 0 0),(14, .d (dI ((j:Int) - 1)))]) (fun j=>mkH [(3, .box ((Ms.c (Ax m)).map S.d))]) (fun j=>(Ax m).cells.length+2 - j) (0) (Nat.zero_le _) ?_ ?_ ?_
 exact fz ⟨sr,sr,trivial⟩
 exact gz ⟨R,trivial⟩
 intro j hk2
 have hj:=hk2
 refine zs<|zr<|zm R R<|zp (Aa R R Bu)<|zp (Ab R R Dr R R)<|XL.len R R R Tryz.underlying28 fun hl79=>zp (Mc R R R)<|zn<|?_
 refine zd R (fun c80=> ?_) (fun c80=> ?_)
 refine zi<|zs<|Ah<|zs<|B4 [] (by kernel_rfl) (by kernel_rfl) (by kernel_rfl) (by decide)<|yp (Ae (s':= .d (.agg (Ms.c (Ax m)))) (Ac (Ad R R Bz R lb)) (by kernel_rfl))<|ym R R<|ChK.cons R (CStep.call R (Ajq _ _) R)<|yp (Ae (s':= .d (.agg (Ms.c (Ax m)))) (Ac (Ad R R Bz R lb)) (by kernel_rfl))<|ym R R<|?_
 refine ChK.cons R (CStep.call R (Ah5 _ _) R)<|yp (Gq (Atd R R R Tryz.underlying4) (fun h=>h R))<|?_
 refine ChK.nil ⟨by kernel_rfl, ?_⟩
 refine A8 (by kernel_rfl) R<|zi<|Ag (by kernel_rfl)<|zm R R<|zp (Ak R R R (by omega) (by omega))<|za R R<|zn<|?_
 exact Al (j+1) (by omega) (by omega) (fz ⟨sr, .same (sI (by omega)),trivial⟩) (gz ⟨R,trivial⟩)
 exact Aq<|zr<|za R R<|zn<|zt<|z1 R R (R)
end Go.Proofs.YtaafemnkamfgnaaGreat
