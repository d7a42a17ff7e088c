/- Part 11 of what the statements need: lemmas and walks. -/
import Derived.Test.YtaafemnkamfgnaaGreatBl10
set_option linter.unusedVariables false
set_option linter.unusedSimpArgs false
set_option linter.unusedSectionVars false
set_option maxRecDepth 20000
set_option maxHeartbeats 8000000
namespace Go.Proofs.YtaafemnkamfgnaaGreat
open Go.RowKit
def bEv:Ev:=⟨0,0,3,⟨0,0⟩, [], [],0,0,0, [],0,0⟩
def bVo:Vo:=⟨[bEv], []⟩
def bCe:Ce:=⟨[], [bVo]⟩
def blH (t:Me) (n f:Int):Mh:=Mh.sh (⟨0,0,Me.z,0,f,false,0,0,0,0,0,0, []⟩:Mh) t n
def blM (t:Me) (n f s:Int):Ms:=⟨blH t n f, [],List.replicate s.toNat bCe⟩
def blE (t:Me) (n f s:Int):Int:=if mlE t n≠0 then mlE t n else if f< -7∨7<f∨s<1∨128<s then 2 else 0
def blS (t:Me) (n f s:Int):Ms:=if blE t n f s≠0 then Ms.z else blM t n f s
theorem C4 {t:Me} {n f s:Int} (h:mlE t n≠0):blE t n f s=mlE t n:=by rw [blE,if_pos h]
theorem Cw {t:Me} {n f s:Int} (h:¬mlE t n≠0) (h2:f< -7∨7<f∨s<1∨128<s):blE t n f s=2:=by rw [blE,if_neg h,if_pos h2]
theorem F0 {t:Me} {n f s:Int} (h:¬mlE t n≠0) (h2:¬(f< -7∨7<f∨s<1∨128<s)):blE t n f s=0:=by rw [blE,if_neg h,if_neg h2]
theorem Qj {t:Me} {n f s e:Int} (h:blE t n f s=e) (h2:e≠0):(Ms.z,e)=(blS t n f s,blE t n f s):=by rw [blS,h,if_pos h2]
theorem Aqe {t:Me} {n f s:Int} (h:blE t n f s=0):(blM t n f s,(0:Int))=(blS t n f s,blE t n f s):=by rw [blS,h,if_neg (by decide)]
theorem Uv {a b:Ms} {x y:Int} (h:(a,x)=(b,y)):D.tup [.agg (Ms.c a),dI x]= .tup [.agg (Ms.c b),dI y]:=by cases h;rfl
theorem Ta (t:Me) (n f s:Int):XC Tryz.prog 48 [.agg (Me.c t), .v (.int .i64 n), .v (.int .i64 f), .v (.int .i64 s)] (fun r=>r= .tup [.agg (Ms.c (blS t n f s)),dI (blE t n f s)]):=by
 refine Aj Adi Tryz.func48 R R lb<|zr<|XL.step R (Aq 4 (l:= [.d (dI t.count), .d (dI t.unit), .d (dI t.g0), .d (dI t.g1), .d (dI t.g2), .d (dI t.g3), .d (dI t.g4), .d (dI t.g5)]) R R (by kernel_rfl))<|?_
 refine XL.step R (Al 8 (l:= [.d (dI 0), .d (dI 0), .d (dI 0), .d (dI 0), .d (dI 0), .d (dI 0), .d (dI 0), .d (dI 0), .d (dI 0), .d (dI 0), .d (dI 0), .d (dI 0), .d (dB false), .d (dI 0), .d (dI 0), .d (dI 0), .d (dI 0), .d (dI 0), .d (dI 0), .d (.v (.string ⟨#[]⟩)), .d (.v (.slice none 0 0)), .d (.v (.slice none 0 0))]) R Bn (by kernel_rfl))<|za R R<|znr<|zm R R<|?_
 refine zp (Ae (s':= .d (.agg [dI 0,dI 0,dI 0,dI 0,dI 0,dI 0,dI 0,dI 0,dI 0,dI 0,dI 0,dI f,dB false,dI 0,dI 0,dI 0,dI 0,dI 0,dI 0, .v (.string ⟨#[]⟩), .v (.slice none 0 0), .v (.slice none 0 0)])) (Aa (Ao (r:= [.d (dI 0), .d (dI 0), .d (dI 0), .d (dI 0), .d (dI 0), .d (dI 0), .d (dI 0), .d (dI 0), .d (dI 0), .d (dI 0), .d (dI 0), .d (dI f), .d (dB false), .d (dI 0), .d (dI 0), .d (dI 0), .d (dI 0), .d (dI 0), .d (dI 0), .d (.v (.string ⟨#[]⟩)), .d (.v (.slice none 0 0)), .d (.v (.slice none 0 0))]) R Cz Bn (by kernel_rfl))) (by kernel_rfl))<|?_
 refine zp (Ae (s':= .d (.agg (Me.c t))) (Aa (Ad R R A7 R lb)) (by kernel_rfl))<|zm R R<|XL.call1 R R (Xv (⟨0,0,Me.z,0,f,false,0,0,0,0,0,0, []⟩:Mh) none none 0 0 0 0 t n) R<|zm R R<|zp (An R R R)<|zp (An R R R)<|?_
 refine XL.step R (Al 10 (l:= [.d (dI 0), .d (dI 0), .d (dI 0), .d (dI 0), .d (dI 0), .d (dI 0), .d (dI 0), .d (dI 0), .d (dI 0), .d (dI 0), .d (dI 0), .d (dI 0), .d (dB false), .d (dI 0), .d (dI 0), .d (dI 0), .d (dI 0), .d (dI 0), .d (dI 0), .d (.v (.string ⟨#[]⟩)), .d (.v (.slice none 0 0)), .d (.v (.slice none 0 0))]) R Bn (by kernel_rfl))<|?_
 refine XL.step R (Ag (l':= [.d (dI (blH t n f).site), .d (dI (blH t n f).num), .d (dI (blH t n f).m.count), .d (dI (blH t n f).m.unit), .d (dI (blH t n f).m.g0), .d (dI (blH t n f).m.g1), .d (dI (blH t n f).m.g2), .d (dI (blH t n f).m.g3), .d (dI (blH t n f).m.g4), .d (dI (blH t n f).m.g5), .d (dI (blH t n f).len), .d (dI (blH t n f).fifths), .d (dB (blH t n f).start), .d (dI (blH t n f).fin), .d (dI (blH t n f).ends), .d (dI (blH t n f).jump), .d (dI (blH t n f).labels), .d (dI (blH t n f).swing), .d (dI (blH t n f).brk), .d (.v (.string ⟨(blH t n f).reh.toArray⟩)), .d (.v (.slice none 0 0)), .d (.v (.slice none 0 0))]) R R R R Ed R lb (by kernel_rfl))<|?_
 refine za R R<|zn<|zs<|Ah<|zr<|zm R R<|zp (As R R R)<|za R R<|zn<|?_
 refine zd R (fun c20=> ?_) (fun c20=> ?_)
 refine zr<|?_
 refine zp (Ae (s':= .d (.agg [dI 0,dI 0,dI 0,dI 0,dI 0,dI 0,dI 0,dI 0,dI 0,dI 0,dI 0,dI 0,dB false,dI 0,dI 0,dI 0,dI 0,dI 0,dI 0, .v (.string ⟨#[]⟩), .v (.slice none 0 0), .v (.slice none 0 0)])) (Aa (Ao (r:= [.d (dI 0), .d (dI 0), .d (dI 0), .d (dI 0), .d (dI 0), .d (dI 0), .d (dI 0), .d (dI 0), .d (dI 0), .d (dI 0), .d (dI 0), .d (dI 0), .d (dB false), .d (dI 0), .d (dI 0), .d (dI 0), .d (dI 0), .d (dI 0), .d (dI 0), .d (.v (.string ⟨#[]⟩)), .d (.v (.slice none 0 0)), .d (.v (.slice none 0 0))]) R Cz Bn (by kernel_rfl))) (by kernel_rfl))<|?_
 refine zm R R<|XL.step R (Ag (l':= [.d (dI 0), .d (dI 0), .d (dI 0), .d (dI 0), .d (dI 0), .d (dI 0), .d (dI 0), .d (dI 0), .d (dI 0), .d (dI 0), .d (dI 0), .d (dI 0), .d (dB false), .d (dI 0), .d (dI 0), .d (dI 0), .d (dI 0), .d (dI 0), .d (dI 0), .d (.v (.string ⟨#[]⟩)), .d (.v (.slice none 0 0)), .d (.v (.slice none 0 0))]) R R R R Ed R lb (by kernel_rfl))<|za R R<|zn<|zt<|?_
 exact Az R (RV.sub (RV.cells R R R A1 lb R) (.agg (.cons (.same R) (.cons (.same R) (.cons (.same R) (.cons (.same R) (.cons (.same R) (.cons (.same R) (.cons (.same R) (.cons (.same R) (.cons (.same R) (.cons (.same R) (.cons (.same R) (.cons (.same R) (.cons (.same R) (.cons (.same R) (.cons (.same R) (.cons (.same R) (.cons (.same R) (.cons (.same R) (.cons (.same R) (.cons (.same R) (.cons (.nil 3) (.cons (.nil 2) (.nil))))))))))))))))))))))))) (RV.tmp R R) (by exact Uv (Qj (C4 (by assumption)) (by assumption)))
 refine zr<|zm R R<|zp (Ar R R R)<|zm R R<|?_
 refine XL.dec 28 R (fun g28=> ?_) (fun g28=> ?_)
 refine zk 2 R<|zq R R R<|zm R R<|zk 2 R<|zq R R R<|zm R R<|zk 2 R<|zq R R R<|za R R<|zn<|Au (by kernel_rfl) R<|zr<|?_
 refine zp (Ae (s':= .d (.agg [dI 0,dI 0,dI 0,dI 0,dI 0,dI 0,dI 0,dI 0,dI 0,dI 0,dI 0,dI 0,dB false,dI 0,dI 0,dI 0,dI 0,dI 0,dI 0, .v (.string ⟨#[]⟩), .v (.slice none 0 0), .v (.slice none 0 0)])) (Aa (Ao (r:= [.d (dI 0), .d (dI 0), .d (dI 0), .d (dI 0), .d (dI 0), .d (dI 0), .d (dI 0), .d (dI 0), .d (dI 0), .d (dI 0), .d (dI 0), .d (dI 0), .d (dB false), .d (dI 0), .d (dI 0), .d (dI 0), .d (dI 0), .d (dI 0), .d (dI 0), .d (.v (.string ⟨#[]⟩)), .d (.v (.slice none 0 0)), .d (.v (.slice none 0 0))]) R Cz Bn (by kernel_rfl))) (by kernel_rfl))<|?_
 refine XL.step R (Ag (l':= [.d (dI 0), .d (dI 0), .d (dI 0), .d (dI 0), .d (dI 0), .d (dI 0), .d (dI 0), .d (dI 0), .d (dI 0), .d (dI 0), .d (dI 0), .d (dI 0), .d (dB false), .d (dI 0), .d (dI 0), .d (dI 0), .d (dI 0), .d (dI 0), .d (dI 0), .d (.v (.string ⟨#[]⟩)), .d (.v (.slice none 0 0)), .d (.v (.slice none 0 0))]) R R R R Ed R lb (by kernel_rfl))<|za R R<|zn<|zt<|?_
 exact Az R (RV.sub (RV.cells R R R A1 lb R) (.agg (.cons (.same R) (.cons (.same R) (.cons (.same R) (.cons (.same R) (.cons (.same R) (.cons (.same R) (.cons (.same R) (.cons (.same R) (.cons (.same R) (.cons (.same R) (.cons (.same R) (.cons (.same R) (.cons (.same R) (.cons (.same R) (.cons (.same R) (.cons (.same R) (.cons (.same R) (.cons (.same R) (.cons (.same R) (.cons (.same R) (.cons (.nil 3) (.cons (.nil 2) (.nil))))))))))))))))))))))))) (RV.tmp R R) (by exact Uv (Qj (Cw (by omega) (by omega)) (by decide)))
 refine zm R R<|zp (A5 R R R)<|zq R R R<|zm R R<|?_
 refine XL.dec 32 R (fun g32=> ?_) (fun g32=> ?_)
 refine zk 2 R<|zq R R R<|zm R R<|zk 2 R<|zq R R R<|za R R<|zn<|Au (by kernel_rfl) R<|zr<|?_
 refine zp (Ae (s':= .d (.agg [dI 0,dI 0,dI 0,dI 0,dI 0,dI 0,dI 0,dI 0,dI 0,dI 0,dI 0,dI 0,dB false,dI 0,dI 0,dI 0,dI 0,dI 0,dI 0, .v (.string ⟨#[]⟩), .v (.slice none 0 0), .v (.slice none 0 0)])) (Aa (Ao (r:= [.d (dI 0), .d (dI 0), .d (dI 0), .d (dI 0), .d (dI 0), .d (dI 0), .d (dI 0), .d (dI 0), .d (dI 0), .d (dI 0), .d (dI 0), .d (dI 0), .d (dB false), .d (dI 0), .d (dI 0), .d (dI 0), .d (dI 0), .d (dI 0), .d (dI 0), .d (.v (.string ⟨#[]⟩)), .d (.v (.slice none 0 0)), .d (.v (.slice none 0 0))]) R Cz Bn (by kernel_rfl))) (by kernel_rfl))<|?_
 refine XL.step R (Ag (l':= [.d (dI 0), .d (dI 0), .d (dI 0), .d (dI 0), .d (dI 0), .d (dI 0), .d (dI 0), .d (dI 0), .d (dI 0), .d (dI 0), .d (dI 0), .d (dI 0), .d (dB false), .d (dI 0), .d (dI 0), .d (dI 0), .d (dI 0), .d (dI 0), .d (dI 0), .d (.v (.string ⟨#[]⟩)), .d (.v (.slice none 0 0)), .d (.v (.slice none 0 0))]) R R R R Ed R lb (by kernel_rfl))<|za R R<|zn<|zt<|?_
 exact Az R (RV.sub (RV.cells R R R A1 lb R) (.agg (.cons (.same R) (.cons (.same R) (.cons (.same R) (.cons (.same R) (.cons (.same R) (.cons (.same R) (.cons (.same R) (.cons (.same R) (.cons (.same R) (.cons (.same R) (.cons (.same R) (.cons (.same R) (.cons (.same R) (.cons (.same R) (.cons (.same R) (.cons (.same R) (.cons (.same R) (.cons (.same R) (.cons (.same R) (.cons (.same R) (.cons (.nil 3) (.cons (.nil 2) (.nil))))))))))))))))))))))))) (RV.tmp R R) (by exact Uv (Qj (Cw (by omega) (by omega)) (by decide)))
 refine zm R R<|zp (Ar R R R)<|zq R R R<|zm R R<|?_
 refine XL.dec 36 R (fun g36=> ?_) (fun g36=> ?_)
 refine zk 2 R<|zq R R R<|za R R<|zn<|Au (by kernel_rfl) R<|zr<|?_
 refine zp (Ae (s':= .d (.agg [dI 0,dI 0,dI 0,dI 0,dI 0,dI 0,dI 0,dI 0,dI 0,dI 0,dI 0,dI 0,dB false,dI 0,dI 0,dI 0,dI 0,dI 0,dI 0, .v (.string ⟨#[]⟩), .v (.slice none 0 0), .v (.slice none 0 0)])) (Aa (Ao (r:= [.d (dI 0), .d (dI 0), .d (dI 0), .d (dI 0), .d (dI 0), .d (dI 0), .d (dI 0), .d (dI 0), .d (dI 0), .d (dI 0), .d (dI 0), .d (dI 0), .d (dB false), .d (dI 0), .d (dI 0), .d (dI 0), .d (dI 0), .d (dI 0), .d (dI 0), .d (.v (.string ⟨#[]⟩)), .d (.v (.slice none 0 0)), .d (.v (.slice none 0 0))]) R Cz Bn (by kernel_rfl))) (by kernel_rfl))<|?_
 refine XL.step R (Ag (l':= [.d (dI 0), .d (dI 0), .d (dI 0), .d (dI 0), .d (dI 0), .d (dI 0), .d (dI 0), .d (dI 0), .d (dI 0), .d (dI 0), .d (dI 0), .d (dI 0), .d (dB false), .d (dI 0), .d (dI 0), .d (dI 0), .d (dI 0), .d (dI 0), .d (dI 0), .d (.v (.string ⟨#[]⟩)), .d (.v (.slice none 0 0)), .d (.v (.slice none 0 0))]) R R R R Ed R lb (by kernel_rfl))<|za R R<|zn<|zt<|?_
 exact Az R (RV.sub (RV.cells R R R A1 lb R) (.agg (.cons (.same R) (.cons (.same R) (.cons (.same R) (.cons (.same R) (.cons (.same R) (.cons (.same R) (.cons (.same R) (.cons (.same R) (.cons (.same R) (.cons (.same R) (.cons (.same R) (.cons (.same R) (.cons (.same R) (.cons (.same R) (.cons (.same R) (.cons (.same R) (.cons (.same R) (.cons (.same R) (.cons (.same R) (.cons (.same R) (.cons (.nil 3) (.cons (.nil 2) (.nil))))))))))))))))))))))))) (RV.tmp R R) (by exact Uv (Qj (Cw (by omega) (by omega)) (by decide)))
 refine zm R R<|zp (A5 R R R)<|zq R R R<|za R R<|zn<|?_
 refine zd R (fun c25=> ?_) (fun c25=> ?_)
 refine zr<|?_
 refine zp (Ae (s':= .d (.agg [dI 0,dI 0,dI 0,dI 0,dI 0,dI 0,dI 0,dI 0,dI 0,dI 0,dI 0,dI 0,dB false,dI 0,dI 0,dI 0,dI 0,dI 0,dI 0, .v (.string ⟨#[]⟩), .v (.slice none 0 0), .v (.slice none 0 0)])) (Aa (Ao (r:= [.d (dI 0), .d (dI 0), .d (dI 0), .d (dI 0), .d (dI 0), .d (dI 0), .d (dI 0), .d (dI 0), .d (dI 0), .d (dI 0), .d (dI 0), .d (dI 0), .d (dB false), .d (dI 0), .d (dI 0), .d (dI 0), .d (dI 0), .d (dI 0), .d (dI 0), .d (.v (.string ⟨#[]⟩)), .d (.v (.slice none 0 0)), .d (.v (.slice none 0 0))]) R Cz Bn (by kernel_rfl))) (by kernel_rfl))<|?_
 refine XL.step R (Ag (l':= [.d (dI 0), .d (dI 0), .d (dI 0), .d (dI 0), .d (dI 0), .d (dI 0), .d (dI 0), .d (dI 0), .d (dI 0), .d (dI 0), .d (dI 0), .d (dI 0), .d (dB false), .d (dI 0), .d (dI 0), .d (dI 0), .d (dI 0), .d (dI 0), .d (dI 0), .d (.v (.string ⟨#[]⟩)), .d (.v (.slice none 0 0)), .d (.v (.slice none 0 0))]) R R R R Ed R lb (by kernel_rfl))<|za R R<|zn<|zt<|?_
 exact Az R (RV.sub (RV.cells R R R A1 lb R) (.agg (.cons (.same R) (.cons (.same R) (.cons (.same R) (.cons (.same R) (.cons (.same R) (.cons (.same R) (.cons (.same R) (.cons (.same R) (.cons (.same R) (.cons (.same R) (.cons (.same R) (.cons (.same R) (.cons (.same R) (.cons (.same R) (.cons (.same R) (.cons (.same R) (.cons (.same R) (.cons (.same R) (.cons (.same R) (.cons (.same R) (.cons (.nil 3) (.cons (.nil 2) (.nil))))))))))))))))))))))))) (RV.tmp R R) (by exact Uv (Qj (Cw (by omega) (by omega)) (by decide)))
 refine zi<|zs<|zr<|zm R R<|zm R R<|zn<|Ah<|?_
 refine E6 7402 10 21 78 2 (l':= [.d (dI (blH t n f).site), .d (dI (blH t n f).num), .d (dI (blH t n f).m.count), .d (dI (blH t n f).m.unit), .d (dI (blH t n f).m.g0), .d (dI (blH t n f).m.g1), .d (dI (blH t n f).m.g2), .d (dI (blH t n f).m.g3), .d (dI (blH t n f).m.g4), .d (dI (blH t n f).m.g5), .d (dI (blH t n f).len), .d (dI (blH t n f).fifths), .d (dB (blH t n f).start), .d (dI (blH t n f).fin), .d (dI (blH t n f).ends), .d (dI (blH t n f).jump), .d (dI (blH t n f).labels), .d (dI (blH t n f).swing), .d (dI (blH t n f).brk), .d (.v (.string ⟨(blH t n f).reh.toArray⟩)), .d (.v (.slice none 0 0)), .own 7402]) R R (by decide) (by kernel_rfl)<|?_
 refine A6 (α:=Nat) (fun k=>(k:Int)≤s∧s≤128) (fun k=>mkF [(8, .ptr 8 0 0),(9, .d (dI 0)),(10, .ptr 10 0 0),(41, .d (dI s)),(42, .d (dI k))]) (fun k=>mkH [(8, .box [.d (dI 0), .d (dI 0), .d (dI 0), .d (dI 0), .d (dI 0), .d (dI 0), .d (dI 0), .d (dI 0), .d (dI 0), .d (dI 0), .d (dI 0), .d (dI 0), .d (dB false), .d (dI 0), .d (dI 0), .d (dI 0), .d (dI 0), .d (dI 0), .d (dI 0), .d (.v (.string ⟨#[]⟩)), .d (.v (.slice none 0 0)), .d (.v (.slice none 0 0))]),(10, .box [.d (dI (blH t n f).site), .d (dI (blH t n f).num), .d (dI (blH t n f).m.count), .d (dI (blH t n f).m.unit), .d (dI (blH t n f).m.g0), .d (dI (blH t n f).m.g1), .d (dI (blH t n f).m.g2), .d (dI (blH t n f).m.g3), .d (dI (blH t n f).m.g4), .d (dI (blH t n f).m.g5), .d (dI (blH t n f).len), .d (dI (blH t n f).fifths), .d (dB (blH t n f).start), .d (dI (blH t n f).fin), .d (dI (blH t n f).ends), .d (dI (blH t n f).jump), .d (dI (blH t n f).labels), .d (dI (blH t n f).swing), .d (dI (blH t n f).brk), .d (.v (.string ⟨(blH t n f).reh.toArray⟩)), .d (.v (.slice none 0 0)), .own 7402]),(7402, .row 78 2 ((List.replicate k bCe).map Ce.c))]) (fun k=>s.toNat - k) (0) (⟨by omega,by omega⟩) ?_ ?_ ?_
 exact fz ⟨sr,sr,sr,sr,sr,trivial⟩
 exact gz ⟨R,R,R,trivial⟩
 intro k hk1
 obtain ⟨hk,hs128⟩:=hk1
 refine zr<|zp (Ar R R R)<|zn<|zs<|?_
 refine zd R (fun c43=> ?_) (fun c43=> ?_)
 refine zi<|zs<|Ah<|Af (by kernel_rfl)<|zp (Ac R R C2)<|zp (Ab R R G1 R R)<|?_
 refine zp (Cb (.agg (Ev.c bEv)) (Ae (s':= .d (.agg [dI 0,dI 0,dI 3,dI 0,dI 0, .v (.slice none 0 0), .v (.slice none 0 0),dI 0,dI 0,dI 0, .v (.slice none 0 0),dI 0,dI 0])) (Aa (Ao R K3 B3 R)) (by kernel_rfl)) (.agg (.cons (.same R) (.cons (.same R) (.cons (.same R) (.cons (.same R) (.cons (.same R) (.cons (.nil 5) (.cons (.nil 5) (.cons (.same R) (.cons (.same R) (.cons (.same R) (.cons (.nil 2) (.cons (.same R) (.cons (.same R) (.nil))))))))))))))))<|?_
 refine XL.step R (Ee (l:= [bEv].map Ev.c) R Tryz.underlying79 C7 B3 (by kernel_rfl) R (by omega) (by omega))<|zp (Cb (.agg (Vo.c bVo)) (Ae (s':= .d (.agg [.sl 13 ([bEv].map Ev.c), .v (.slice none 0 0)])) (Aa (Ao R Cu Bc R)) (by kernel_rfl)) (.agg (.cons (.same R) (.cons (.nil 4) (.nil)))))<|?_
 refine XL.step R (Ee (l:= [bVo].map Vo.c) R Tryz.underlying76 Bp Bc (by kernel_rfl) R (by omega) (by omega))<|zp (Cb (.agg (Ce.c bCe)) (Ae (s':= .d (.agg [.v (.slice none 0 0), .sl 2 ([bVo].map Vo.c)])) (Aa (Ao R Pg Eo R)) (by kernel_rfl)) (.agg (.cons (.nil 2) (.cons (.same R) (.nil)))))<|?_
 refine XL.step R (Bq 51 R Tryz.underlying28 I7 Eo R R (by omega) (by omega))<|XL.step R (Bg R Uc (.own R) (Src.own R) (by unfold maxLen;simp;omega) (by simp;omega))<|zp (Ac R R C2)<|?_
 refine XL.step R (Ag (l':= [.d (dI (blH t n f).site), .d (dI (blH t n f).num), .d (dI (blH t n f).m.count), .d (dI (blH t n f).m.unit), .d (dI (blH t n f).m.g0), .d (dI (blH t n f).m.g1), .d (dI (blH t n f).m.g2), .d (dI (blH t n f).m.g3), .d (dI (blH t n f).m.g4), .d (dI (blH t n f).m.g5), .d (dI (blH t n f).len), .d (dI (blH t n f).fifths), .d (dB (blH t n f).start), .d (dI (blH t n f).fin), .d (dI (blH t n f).ends), .d (dI (blH t n f).jump), .d (dI (blH t n f).labels), .d (dI (blH t n f).swing), .d (dI (blH t n f).brk), .d (.v (.string ⟨(blH t n f).reh.toArray⟩)), .d (.v (.slice none 0 0)), .own 7402]) R R R R Tn R lb (by kernel_rfl))<|?_
 refine zn<|Af (by kernel_rfl)<|zp (Am R R R (by omega) (by omega))<|zm R R<|zn<|?_
 exact Ap (k+1) (⟨by omega,by omega⟩) (by omega) (fz ⟨sr,sr,sr,sr,sr,trivial⟩) (gz ⟨rfl,rfl,H6 (a:=bCe) rfl List.replicate_succ',trivial⟩)
 refine A0<|zr<|zp (Aa (Ad R R A1 R lb))<|?_
 refine XL.step R (Ag (l':= [.d (dI (blH t n f).site), .d (dI (blH t n f).num), .d (dI (blH t n f).m.count), .d (dI (blH t n f).m.unit), .d (dI (blH t n f).m.g0), .d (dI (blH t n f).m.g1), .d (dI (blH t n f).m.g2), .d (dI (blH t n f).m.g3), .d (dI (blH t n f).m.g4), .d (dI (blH t n f).m.g5), .d (dI (blH t n f).len), .d (dI (blH t n f).fifths), .d (dB (blH t n f).start), .d (dI (blH t n f).fin), .d (dI (blH t n f).ends), .d (dI (blH t n f).jump), .d (dI (blH t n f).labels), .d (dI (blH t n f).swing), .d (dI (blH t n f).brk), .d (.v (.string ⟨(blH t n f).reh.toArray⟩)), .d (.v (.slice none 0 0)), .own 7402]) R R R R Ed R lb (by kernel_rfl))<|?_
 refine za R R<|zn<|zt<|B6 (i:=7402) R<|?_
 exact Az R (RV.sub (RV.cells R R R A1 lb R) (.agg (.cons (.same R) (.cons (.same R) (.cons (.same R) (.cons (.same R) (.cons (.same R) (.cons (.same R) (.cons (.same R) (.cons (.same R) (.cons (.same R) (.cons (.same R) (.cons (.same R) (.cons (.same R) (.cons (.same R) (.cons (.same R) (.cons (.same R) (.cons (.same R) (.cons (.same R) (.cons (.same R) (.cons (.same R) (.cons (.same R) (.cons (.nil 3) (.cons (.same R) (.nil))))))))))))))))))))))))) (RV.tmp R R) (by rw [show List.replicate k bCe=List.replicate s.toNat bCe by rw [show k=s.toNat by omega]];exact Uv (Aqe (F0 (by omega) (by omega))))
theorem Anm {t:Me} {n:Int} (h:¬mlE t n≠0):t.err=0:=Classical.byContradiction fun e=>h (by rw [←(Ux (n:=n) e).2];exact e)
theorem As7 {t:Me} {n f:Int} (h:¬mlE t n≠0) (h2:n=t.lenV):(blH t n f).len=0:=(Aq4 (Anm h) h2.symm).symm
theorem As6 {t:Me} {n f:Int} (h:¬mlE t n≠0) (h2:¬n=t.lenV):(blH t n f).len=n:=(Aq3 (Anm h) (fun e=>h2 e.symm)).symm
theorem Di (t:Me) (n f s:Int) (hm:¬mlE t n≠0) (h1:1≤s) (h2:s≤128):XC Tryz.prog 50 [.agg (Me.c t), .v (.int .i64 n), .v (.int .i64 f), .v (.int .i64 s)] (fun r=>r= .agg (Ms.c (blM t n f s))):=by
 refine Aj Adg Tryz.func50 R R lb<|zr<|XL.step R (Aq 4 (l:= [.d (dI t.count), .d (dI t.unit), .d (dI t.g0), .d (dI t.g1), .d (dI t.g2), .d (dI t.g3), .d (dI t.g4), .d (dI t.g5)]) R R (by kernel_rfl))<|?_
 refine XL.step R (Al 8 (l:= [.d (dI 0), .d (dI 0), .d (dI 0), .d (dI 0), .d (dI 0), .d (dI 0), .d (dI 0), .d (dI 0), .d (dI 0), .d (dI 0), .d (dI 0), .d (dI 0), .d (dB false), .d (dI 0), .d (dI 0), .d (dI 0), .d (dI 0), .d (dI 0), .d (dI 0), .d (.v (.string ⟨#[]⟩)), .d (.v (.slice none 0 0)), .d (.v (.slice none 0 0))]) R Bn (by kernel_rfl))<|znr<|?_
 refine zp (Ae (s':= .d (.agg (Me.c t))) (Aa (Ad R R A7 R lb)) (by kernel_rfl))<|zm R R<|zm R R<|?_
 refine zp (Ae (s':= .d (.agg [dI 0,dI 0,dI t.count,dI t.unit,dI t.g0,dI t.g1,dI t.g2,dI t.g3,dI t.g4,dI t.g5,dI n,dI f,dB false,dI 0,dI 0,dI 0,dI 0,dI 0,dI 0, .v (.string ⟨#[]⟩), .v (.slice none 0 0), .v (.slice none 0 0)])) (Aa (Ao (r:= [.d (dI 0), .d (dI 0), .d (dI t.count), .d (dI t.unit), .d (dI t.g0), .d (dI t.g1), .d (dI t.g2), .d (dI t.g3), .d (dI t.g4), .d (dI t.g5), .d (dI n), .d (dI f), .d (dB false), .d (dI 0), .d (dI 0), .d (dI 0), .d (dI 0), .d (dI 0), .d (dI 0), .d (.v (.string ⟨#[]⟩)), .d (.v (.slice none 0 0)), .d (.v (.slice none 0 0))]) R Cz Bn (by kernel_rfl))) (by kernel_rfl))<|?_
 refine XL.step R (Al 9 (l:= [.d (dI 0), .d (dI 0), .d (dI 0), .d (dI 0), .d (dI 0), .d (dI 0), .d (dI 0), .d (dI 0), .d (dI 0), .d (dI 0), .d (dI 0), .d (dI 0), .d (dB false), .d (dI 0), .d (dI 0), .d (dI 0), .d (dI 0), .d (dI 0), .d (dI 0), .d (.v (.string ⟨#[]⟩)), .d (.v (.slice none 0 0)), .d (.v (.slice none 0 0))]) R Bn (by kernel_rfl))<|?_
 refine XL.step R (Ag (l':= [.d (dI 0), .d (dI 0), .d (dI t.count), .d (dI t.unit), .d (dI t.g0), .d (dI t.g1), .d (dI t.g2), .d (dI t.g3), .d (dI t.g4), .d (dI t.g5), .d (dI n), .d (dI f), .d (dB false), .d (dI 0), .d (dI 0), .d (dI 0), .d (dI 0), .d (dI 0), .d (dI 0), .d (.v (.string ⟨#[]⟩)), .d (.v (.slice none 0 0)), .d (.v (.slice none 0 0))]) R R R R Ed R lb (by kernel_rfl))<|zn<|zs<|zr<|?_
 refine zp (Ae (s':= .d (.agg (Me.c t))) (Aa (Ad R R A7 R lb)) (by kernel_rfl))<|XL.call1 R R (Hu _) R<|zm R R<|zp (An R R R)<|zp (An R R R)<|za R R<|za R R<|znr<|zm R R<|zm R R<|zp (A8 R R R)<|zn<|?_
 refine zd R (fun c24=> ?_) (fun c24=> ?_)
 refine Af (by kernel_rfl)<|zp (Ac R R E2)<|?_
 refine XL.step R (Ag (l':= [.d (dI 0), .d (dI 0), .d (dI t.count), .d (dI t.unit), .d (dI t.g0), .d (dI t.g1), .d (dI t.g2), .d (dI t.g3), .d (dI t.g4), .d (dI t.g5), .d (dI 0), .d (dI f), .d (dB false), .d (dI 0), .d (dI 0), .d (dI 0), .d (dI 0), .d (dI 0), .d (dI 0), .d (.v (.string ⟨#[]⟩)), .d (.v (.slice none 0 0)), .d (.v (.slice none 0 0))]) R R R R Dv R lb (by kernel_rfl))<|zn<|zs<|zr<|?_
 refine za R R<|zn<|Ah<|E6 7402 9 21 78 2 (l':= [.d (dI 0), .d (dI 0), .d (dI t.count), .d (dI t.unit), .d (dI t.g0), .d (dI t.g1), .d (dI t.g2), .d (dI t.g3), .d (dI t.g4), .d (dI t.g5), .d (dI 0), .d (dI f), .d (dB false), .d (dI 0), .d (dI 0), .d (dI 0), .d (dI 0), .d (dI 0), .d (dI 0), .d (.v (.string ⟨#[]⟩)), .d (.v (.slice none 0 0)), .own 7402]) R R (by decide) (by kernel_rfl)<|?_
 refine A6 (α:=Nat) (fun k=>(k:Int)≤s) (fun k=>mkF [(3, .d (dI s)),(8, .ptr 8 0 0),(9, .ptr 9 0 0),(12, .d (dI k))]) (fun k=>mkH [(8, .box [.d (dI 0), .d (dI 0), .d (dI 0), .d (dI 0), .d (dI 0), .d (dI 0), .d (dI 0), .d (dI 0), .d (dI 0), .d (dI 0), .d (dI 0), .d (dI 0), .d (dB false), .d (dI 0), .d (dI 0), .d (dI 0), .d (dI 0), .d (dI 0), .d (dI 0), .d (.v (.string ⟨#[]⟩)), .d (.v (.slice none 0 0)), .d (.v (.slice none 0 0))]),(9, .box [.d (dI (blH t n f).site), .d (dI (blH t n f).num), .d (dI (blH t n f).m.count), .d (dI (blH t n f).m.unit), .d (dI (blH t n f).m.g0), .d (dI (blH t n f).m.g1), .d (dI (blH t n f).m.g2), .d (dI (blH t n f).m.g3), .d (dI (blH t n f).m.g4), .d (dI (blH t n f).m.g5), .d (dI (blH t n f).len), .d (dI (blH t n f).fifths), .d (dB (blH t n f).start), .d (dI (blH t n f).fin), .d (dI (blH t n f).ends), .d (dI (blH t n f).jump), .d (dI (blH t n f).labels), .d (dI (blH t n f).swing), .d (dI (blH t n f).brk), .d (.v (.string ⟨(blH t n f).reh.toArray⟩)), .d (.v (.slice none 0 0)), .own 7402]),(7402, .row 78 2 ((List.replicate k bCe).map Ce.c))]) (fun k=>s.toNat - k) (0) (by omega) ?_ ?_ ?_
 exact fz ⟨sr,sr,sr,sr,trivial⟩
 exact gz ⟨R,by rw [show (blH t n f).len=_ from by first|exact As7 hm (by omega)|exact As6 hm (by omega)];rfl,rfl,trivial⟩
 intro k hk0
 refine zs<|zr<|zm R R<|zm R R<|zp (Ar R R R)<|zn<|?_
 refine zd R (fun c28=> ?_) (fun c28=> ?_)
 refine zi<|zs<|Ah<|Af (by kernel_rfl)<|zp (Ac R R C2)<|zp (Ab R R G1 R R)<|?_
 refine zp (Cb (.agg (Ev.c bEv)) (Ae (s':= .d (.agg [dI 0,dI 0,dI 3,dI 0,dI 0, .v (.slice none 0 0), .v (.slice none 0 0),dI 0,dI 0,dI 0, .v (.slice none 0 0),dI 0,dI 0])) (Aa (Ao R K3 B3 R)) (by kernel_rfl)) (.agg (.cons (.same R) (.cons (.same R) (.cons (.same R) (.cons (.same R) (.cons (.same R) (.cons (.nil 5) (.cons (.nil 5) (.cons (.same R) (.cons (.same R) (.cons (.same R) (.cons (.nil 2) (.cons (.same R) (.cons (.same R) (.nil))))))))))))))))<|?_
 refine XL.step R (Ee (l:= [bEv].map Ev.c) R Tryz.underlying79 C7 B3 (by kernel_rfl) R (by omega) (by omega))<|zp (Cb (.agg (Vo.c bVo)) (Ae (s':= .d (.agg [.sl 13 ([bEv].map Ev.c), .v (.slice none 0 0)])) (Aa (Ao R Cu Bc R)) (by kernel_rfl)) (.agg (.cons (.same R) (.cons (.nil 4) (.nil)))))<|?_
 refine XL.step R (Ee (l:= [bVo].map Vo.c) R Tryz.underlying76 Bp Bc (by kernel_rfl) R (by omega) (by omega))<|zp (Cb (.agg (Ce.c bCe)) (Ae (s':= .d (.agg [.v (.slice none 0 0), .sl 2 ([bVo].map Vo.c)])) (Aa (Ao R Pg Eo R)) (by kernel_rfl)) (.agg (.cons (.nil 2) (.cons (.same R) (.nil)))))<|?_
 refine XL.step R (Bq 38 R Tryz.underlying28 I7 Eo R R (by omega) (by omega))<|XL.step R (Bg R Uc (.own R) (Src.own R) (by unfold maxLen;simp;omega) (by simp;omega))<|zp (Ac R R C2)<|?_
 refine XL.step R (Ag (l':= [.d (dI (blH t n f).site), .d (dI (blH t n f).num), .d (dI (blH t n f).m.count), .d (dI (blH t n f).m.unit), .d (dI (blH t n f).m.g0), .d (dI (blH t n f).m.g1), .d (dI (blH t n f).m.g2), .d (dI (blH t n f).m.g3), .d (dI (blH t n f).m.g4), .d (dI (blH t n f).m.g5), .d (dI (blH t n f).len), .d (dI (blH t n f).fifths), .d (dB (blH t n f).start), .d (dI (blH t n f).fin), .d (dI (blH t n f).ends), .d (dI (blH t n f).jump), .d (dI (blH t n f).labels), .d (dI (blH t n f).swing), .d (dI (blH t n f).brk), .d (.v (.string ⟨(blH t n f).reh.toArray⟩)), .d (.v (.slice none 0 0)), .own 7402]) R R R R Tn R lb (by kernel_rfl))<|?_
 refine zn<|Af (by kernel_rfl)<|zm R R<|zp (Am R R R (by omega) (by omega))<|za R R<|zn<|?_
 exact Ap (k+1) (by omega) (by omega) (fz ⟨sr,sr,sr,sr,trivial⟩) (gz ⟨R,R,H6 (a:=bCe) R List.replicate_succ',trivial⟩)
 refine A0<|zr<|zp (Aa (Ad R R A1 R lb))<|?_
 refine XL.step R (Ag (l':= [.d (dI (blH t n f).site), .d (dI (blH t n f).num), .d (dI (blH t n f).m.count), .d (dI (blH t n f).m.unit), .d (dI (blH t n f).m.g0), .d (dI (blH t n f).m.g1), .d (dI (blH t n f).m.g2), .d (dI (blH t n f).m.g3), .d (dI (blH t n f).m.g4), .d (dI (blH t n f).m.g5), .d (dI (blH t n f).len), .d (dI (blH t n f).fifths), .d (dB (blH t n f).start), .d (dI (blH t n f).fin), .d (dI (blH t n f).ends), .d (dI (blH t n f).jump), .d (dI (blH t n f).labels), .d (dI (blH t n f).swing), .d (dI (blH t n f).brk), .d (.v (.string ⟨(blH t n f).reh.toArray⟩)), .d (.v (.slice none 0 0)), .own 7402]) R R R R Ed R lb (by kernel_rfl))<|?_
 refine zn<|zt<|B6 (i:=7402) R<|?_
 exact Iz R (RV.sub (RV.cells R R R A1 lb R) (.agg (.cons (.same R) (.cons (.same R) (.cons (.same R) (.cons (.same R) (.cons (.same R) (.cons (.same R) (.cons (.same R) (.cons (.same R) (.cons (.same R) (.cons (.same R) (.cons (.same R) (.cons (.same R) (.cons (.same R) (.cons (.same R) (.cons (.same R) (.cons (.same R) (.cons (.same R) (.cons (.same R) (.cons (.same R) (.cons (.same R) (.cons (.nil 3) (.cons (.same R) (.nil))))))))))))))))))))))))) (by rw [show List.replicate k bCe=List.replicate s.toNat bCe by rw [show k=s.toNat by omega]];rfl)
 refine zi<|zs<|zr<|za R R<|zn<|Ah<|?_
 refine E6 7402 9 21 78 2 (l':= [.d (dI 0), .d (dI 0), .d (dI t.count), .d (dI t.unit), .d (dI t.g0), .d (dI t.g1), .d (dI t.g2), .d (dI t.g3), .d (dI t.g4), .d (dI t.g5), .d (dI n), .d (dI f), .d (dB false), .d (dI 0), .d (dI 0), .d (dI 0), .d (dI 0), .d (dI 0), .d (dI 0), .d (.v (.string ⟨#[]⟩)), .d (.v (.slice none 0 0)), .own 7402]) R R (by decide) (by kernel_rfl)<|?_
 refine A6 (α:=Nat) (fun k=>(k:Int)≤s) (fun k=>mkF [(3, .d (dI s)),(8, .ptr 8 0 0),(9, .ptr 9 0 0),(12, .d (dI k))]) (fun k=>mkH [(8, .box [.d (dI 0), .d (dI 0), .d (dI 0), .d (dI 0), .d (dI 0), .d (dI 0), .d (dI 0), .d (dI 0), .d (dI 0), .d (dI 0), .d (dI 0), .d (dI 0), .d (dB false), .d (dI 0), .d (dI 0), .d (dI 0), .d (dI 0), .d (dI 0), .d (dI 0), .d (.v (.string ⟨#[]⟩)), .d (.v (.slice none 0 0)), .d (.v (.slice none 0 0))]),(9, .box [.d (dI (blH t n f).site), .d (dI (blH t n f).num), .d (dI (blH t n f).m.count), .d (dI (blH t n f).m.unit), .d (dI (blH t n f).m.g0), .d (dI (blH t n f).m.g1), .d (dI (blH t n f).m.g2), .d (dI (blH t n f).m.g3), .d (dI (blH t n f).m.g4), .d (dI (blH t n f).m.g5), .d (dI (blH t n f).len), .d (dI (blH t n f).fifths), .d (dB (blH t n f).start), .d (dI (blH t n f).fin), .d (dI (blH t n f).ends), .d (dI (blH t n f).jump), .d (dI (blH t n f).labels), .d (dI (blH t n f).swing), .d (dI (blH t n f).brk), .d (.v (.string ⟨(blH t n f).reh.toArray⟩)), .d (.v (.slice none 0 0)), .own 7402]),(7402, .row 78 2 ((List.replicate k bCe).map Ce.c))]) (fun k=>s.toNat - k) (0) (by omega) ?_ ?_ ?_
 exact fz ⟨sr,sr,sr,sr,trivial⟩
 exact gz ⟨R,by rw [show (blH t n f).len=_ from by first|exact As7 hm (by omega)|exact As6 hm (by omega)];rfl,rfl,trivial⟩
 intro k hk0
 refine zs<|zr<|zm R R<|zm R R<|zp (Ar R R R)<|zn<|?_
 refine zd R (fun c28=> ?_) (fun c28=> ?_)
 refine zi<|zs<|Ah<|Af (by kernel_rfl)<|zp (Ac R R C2)<|zp (Ab R R G1 R R)<|?_
 refine zp (Cb (.agg (Ev.c bEv)) (Ae (s':= .d (.agg [dI 0,dI 0,dI 3,dI 0,dI 0, .v (.slice none 0 0), .v (.slice none 0 0),dI 0,dI 0,dI 0, .v (.slice none 0 0),dI 0,dI 0])) (Aa (Ao R K3 B3 R)) (by kernel_rfl)) (.agg (.cons (.same R) (.cons (.same R) (.cons (.same R) (.cons (.same R) (.cons (.same R) (.cons (.nil 5) (.cons (.nil 5) (.cons (.same R) (.cons (.same R) (.cons (.same R) (.cons (.nil 2) (.cons (.same R) (.cons (.same R) (.nil))))))))))))))))<|?_
 refine XL.step R (Ee (l:= [bEv].map Ev.c) R Tryz.underlying79 C7 B3 (by kernel_rfl) R (by omega) (by omega))<|zp (Cb (.agg (Vo.c bVo)) (Ae (s':= .d (.agg [.sl 13 ([bEv].map Ev.c), .v (.slice none 0 0)])) (Aa (Ao R Cu Bc R)) (by kernel_rfl)) (.agg (.cons (.same R) (.cons (.nil 4) (.nil)))))<|?_
 refine XL.step R (Ee (l:= [bVo].map Vo.c) R Tryz.underlying76 Bp Bc (by kernel_rfl) R (by omega) (by omega))<|zp (Cb (.agg (Ce.c bCe)) (Ae (s':= .d (.agg [.v (.slice none 0 0), .sl 2 ([bVo].map Vo.c)])) (Aa (Ao R Pg Eo R)) (by kernel_rfl)) (.agg (.cons (.nil 2) (.cons (.same R) (.nil)))))<|?_
 refine XL.step R (Bq 38 R Tryz.underlying28 I7 Eo R R (by omega) (by omega))<|XL.step R (Bg R Uc (.own R) (Src.own R) (by unfold maxLen;simp;omega) (by simp;omega))<|zp (Ac R R C2)<|?_
 refine XL.step R (Ag (l':= [.d (dI (blH t n f).site), .d (dI (blH t n f).num), .d (dI (blH t n f).m.count), .d (dI (blH t n f).m.unit), .d (dI (blH t n f).m.g0), .d (dI (blH t n f).m.g1), .d (dI (blH t n f).m.g2), .d (dI (blH t n f).m.g3), .d (dI (blH t n f).m.g4), .d (dI (blH t n f).m.g5), .d (dI (blH t n f).len), .d (dI (blH t n f).fifths), .d (dB (blH t n f).start), .d (dI (blH t n f).fin), .d (dI (blH t n f).ends), .d (dI (blH t n f).jump), .d (dI (blH t n f).labels), .d (dI (blH t n f).swing), .d (dI (blH t n f).brk), .d (.v (.string ⟨(blH t n f).reh.toArray⟩)), .d (.v (.slice none 0 0)), .own 7402]) R R R R Tn R lb (by kernel_rfl))<|?_
 refine zn<|Af (by kernel_rfl)<|zm R R<|zp (Am R R R (by omega) (by omega))<|za R R<|zn<|?_
 exact Ap (k+1) (by omega) (by omega) (fz ⟨sr,sr,sr,sr,trivial⟩) (gz ⟨R,R,H6 (a:=bCe) R List.replicate_succ',trivial⟩)
 refine A0<|zr<|zp (Aa (Ad R R A1 R lb))<|?_
 refine XL.step R (Ag (l':= [.d (dI (blH t n f).site), .d (dI (blH t n f).num), .d (dI (blH t n f).m.count), .d (dI (blH t n f).m.unit), .d (dI (blH t n f).m.g0), .d (dI (blH t n f).m.g1), .d (dI (blH t n f).m.g2), .d (dI (blH t n f).m.g3), .d (dI (blH t n f).m.g4), .d (dI (blH t n f).m.g5), .d (dI (blH t n f).len), .d (dI (blH t n f).fifths), .d (dB (blH t n f).start), .d (dI (blH t n f).fin), .d (dI (blH t n f).ends), .d (dI (blH t n f).jump), .d (dI (blH t n f).labels), .d (dI (blH t n f).swing), .d (dI (blH t n f).brk), .d (.v (.string ⟨(blH t n f).reh.toArray⟩)), .d (.v (.slice none 0 0)), .own 7402]) R R R R Ed R lb (by kernel_rfl))<|?_
 refine zn<|zt<|B6 (i:=7402) R<|?_
 exact Iz R (RV.sub (RV.cells R R R A1 lb R) (.agg (.cons (.same R) (.cons (.same R) (.cons (.same R) (.cons (.same R) (.cons (.same R) (.cons (.same R) (.cons (.same R) (.cons (.same R) (.cons (.same R) (.cons (.same R) (.cons (.same R) (.cons (.same R) (.cons (.same R) (.cons (.same R) (.cons (.same R) (.cons (.same R) (.cons (.same R) (.cons (.same R) (.cons (.same R) (.cons (.same R) (.cons (.nil 3) (.cons (.same R) (.nil))))))))))))))))))))))))) (by rw [show List.replicate k bCe=List.replicate s.toNat bCe by rw [show k=s.toNat by omega]];rfl)
theorem As8 {L:Int} (h:¬(L<1∨15482880<L)):ckE bVo L=0:=by
 have hw:bVo.whole:=by decide
 have h0:Dj bVo L=0:=by
  rw [Dj,if_neg h,if_neg (by decide),if_pos ⟨hw,rfl⟩]
  decide+kernel
 have hl:=(Yo h0 hw rfl).1
 rw [ckE,if_neg]
 ·exact h0
 ·rintro ⟨_,_,k⟩
  rw [←hl] at k
  exact k (by simp [tot])
theorem Fc {t:Me} {n f s:Int} (h:blE t n f s=0):chE (blM t n f s) s=0:=by
 have hm:¬mlE t n≠0:=fun e=>by rw [C4 e] at h;exact e h
 have hr:¬(f< -7∨7<f∨s<1∨128<s):=fun e=>by rw [Cw hm e] at h;cases h
 have e1:mlE (blM t n f s).h.m (blM t n f s).h.len=mlE t n:=Pw
 have e2:mlV (blM t n f s).h.m (blM t n f s).h.len=mlV t n:=Aik
 have hl:(blM t n f s).cells.length=s.toNat:=List.length_replicate
 have hk:=Af4 hm
 rw [Kx (by rw [e1];exact hm) (by show ¬(f< -7∨7<f);omega) (by rw [hl];omega),e2]
 refine Q2 fun j hj=> ?_
 have hj2:(blM t n f s).cells[j]? =some bCe:=by
  show (List.replicate s.toNat bCe)[j]? =some bCe
  rw [List.getElem?_replicate,if_pos (by omega)]
 rw [Ae0 hj2]
 refine Anx (v:=bVo) (k:=1) (fun e=>e rfl) (by decide) rfl (by decide) (fun i hi=> ?_) (by decide)
 rw [show i=0 by omega,Tg (show bCe.voices[0]? =some bVo from rfl),Pc (by decide)]
 exact As8 (by have:=hk.lo;have:=hk.hi;omega)
theorem Gc {m:Ms} {n:Int} (hE:m.evs) (h:chE m n=0):XC Tryz.prog 49 [.agg (Ms.c m),dI n] (fun r=>r=dI 0):=by
 have:=Aix m n hE
 rw [h] at this;exact this
theorem Eg (t:Me) (n f s:Int):(blM t n f s).evs:=fun c hc v hv e he=>by
 have:=List.eq_of_mem_replicate hc;subst this
 have:=List.mem_singleton.1 hv;subst this
 have:=List.mem_singleton.1 he;subst this
 decide
theorem Ym (t:Me) (n:Int):XC Tryz.prog 17 [.agg [dI 0,dI 0,dI t.count,dI t.unit,dI t.g0,dI t.g1,dI t.g2,dI t.g3,dI t.g4,dI t.g5,dI n,dI 0,dB false,dI 0,dI 0,dI 0,dI 0,dI 0,dI 0, .v (.string ⟨#[]⟩), .v (.slice none 0 0), .v (.slice none 0 0)]] (fun r=>r= .tup [dI (mlV t n),dI (mlE t n)]):=Ait (⟨0,0,t,n,0,false,0,0,0,0,0,0, []⟩:Mh) none none 0 0 0 0
theorem Ai0 (t:Me) (n f s:Int) (h:s≤12):XC Tryz.prog 12 [.agg (Me.c t), .agg [dI n,dI f,dI s]] (fun r=>r=dB true):=by
 refine Aj Nw Tryz.func12 R R lb<|zr<|XL.step R (Aq 2 (l:= [.d (dI t.count), .d (dI t.unit), .d (dI t.g0), .d (dI t.g1), .d (dI t.g2), .d (dI t.g3), .d (dI t.g4), .d (dI t.g5)]) R R (by kernel_rfl))<|XL.step R (Aq 3 (l:= [.d (dI n), .d (dI f), .d (dI s)]) R R (by kernel_rfl))<|za R R<|zn<|zs<|Be [] (by kernel_rfl) (by kernel_rfl) (by kernel_rfl) (by decide)<|?_
 refine yp (Gk (k:=0) R R R Tryz.underlying97 Dv (by omega))<|yp (Ab R R Ai R R)<|yp (Gk (k:=1) R R R Tryz.underlying97 Dv (by omega))<|yp (Ab R R Ai R R)<|yp (Gk (k:=2) R R R Tryz.underlying97 Dv (by omega))<|yp (Ab R R Ai R R)<|ya R R<|ya R R<|ya R R<|?_
 refine ChK.nil ⟨by kernel_rfl, ?_⟩
 refine zs<|zr<|zm R R<|zp (Cm (A5 R R R) (by omega))<|zm R R<|zk 2 R<|zq R R R<|zn<|Av (by kernel_rfl) R<|zi<|zr<|zp (Ae (s':= .d (.agg (Me.c t))) (Aa (Ad R R A7 R lb)) (by kernel_rfl))<|zm R R<|zm R R<|?_
 refine zm R R<|XL.call1 R R (Ta _ _ _ _) R<|zm R R<|zp (An R R R)<|zp (An R R R)<|?_
 refine XL.step R (Al 8 (l:= [.d (dI 0), .d (dI 0), .d (dI 0), .d (dI 0), .d (dI 0), .d (dI 0), .d (dI 0), .d (dI 0), .d (dI 0), .d (dI 0), .d (dI 0), .d (dI 0), .d (dB false), .d (dI 0), .d (dI 0), .d (dI 0), .d (dI 0), .d (dI 0), .d (dI 0), .d (.v (.string ⟨#[]⟩)), .d (.v (.slice none 0 0)), .d (.v (.slice none 0 0))]) R Bn (by kernel_rfl))<|?_
 refine XL.step R (Ag (l':= [.d (dI (blS t n f s).h.site), .d (dI (blS t n f s).h.num), .d (dI (blS t n f s).h.m.count), .d (dI (blS t n f s).h.m.unit), .d (dI (blS t n f s).h.m.g0), .d (dI (blS t n f s).h.m.g1), .d (dI (blS t n f s).h.m.g2), .d (dI (blS t n f s).h.m.g3), .d (dI (blS t n f s).h.m.g4), .d (dI (blS t n f s).h.m.g5), .d (dI (blS t n f s).h.len), .d (dI (blS t n f s).h.fifths), .d (dB (blS t n f s).h.start), .d (dI (blS t n f s).h.fin), .d (dI (blS t n f s).h.ends), .d (dI (blS t n f s).h.jump), .d (dI (blS t n f s).h.labels), .d (dI (blS t n f s).h.swing), .d (dI (blS t n f s).h.brk), .d (.v (.string ⟨(blS t n f s).h.reh.toArray⟩)), .d (.sl 3 ((blS t n f s).tempi.map Tm.c)), .d (.sl 2 ((blS t n f s).cells.map Ce.c))]) R R R R Ed R lb (by kernel_rfl))<|?_
 refine za R R<|znr<|zp (Ae (s':= .d (.agg (Me.c t))) (Aa (Ad R R A7 R lb)) (by kernel_rfl))<|zm R R<|?_
 refine zp (Ae (s':= .d (.agg [dI 0,dI 0,dI t.count,dI t.unit,dI t.g0,dI t.g1,dI t.g2,dI t.g3,dI t.g4,dI t.g5,dI n,dI 0,dB false,dI 0,dI 0,dI 0,dI 0,dI 0,dI 0, .v (.string ⟨#[]⟩), .v (.slice none 0 0), .v (.slice none 0 0)])) (Aa (Ao (r:= [.d (dI 0), .d (dI 0), .d (dI t.count), .d (dI t.unit), .d (dI t.g0), .d (dI t.g1), .d (dI t.g2), .d (dI t.g3), .d (dI t.g4), .d (dI t.g5), .d (dI n), .d (dI 0), .d (dB false), .d (dI 0), .d (dI 0), .d (dI 0), .d (dI 0), .d (dI 0), .d (dI 0), .d (.v (.string ⟨#[]⟩)), .d (.v (.slice none 0 0)), .d (.v (.slice none 0 0))]) R Cz Bn (by kernel_rfl))) (by kernel_rfl))<|?_
 refine XL.call1 R R (Ym t n) R<|zm R R<|zp (An R R R)<|zp (An R R R)<|za R R<|za R R<|zn<|zs<|zr<|zm R R<|zp (A8 R R R)<|zm R R<|?_
 refine XL.dec 43 R (fun g43=> ?_) (fun g43=> ?_)
 refine zm R R<|zp (Ar R R R)<|zm R R<|?_
 refine XL.dec 46 R (fun g46=> ?_) (fun g46=> ?_)
 refine zk 2 R<|zq R R R<|zm R R<|zk 2 R<|zq R R R<|zm R R<|zk 2 R<|zq R R R<|zq R R R<|zn<|Au (by kernel_rfl) R<|Af (by kernel_rfl)<|za R R<|zn<|?_
 refine zs<|zs<|?_
 have hb:blE t n f s=2:=by first|exact Cw (by omega) (by omega)|(by_cases hmm:mlE t n≠0;(· exact C4 hmm);(· rw [F0 hmm (by omega)];omega))
 refine Af (by kernel_rfl)<|XL.call1 R R (Dz) R<|zp (Cs R R)<|zm R R<|zm R R<|zm R R<|zp (Cm (As R R R) (fun e=>e (by rw [hb])))<|zq R R R<|zn<|Av (by kernel_rfl) R<|zi<|zs<|zr<|zm R R<|?_
 refine zp (As R R R)<|zn<|?_
 refine zd R (fun c67=> ?_) (fun c67=> ?_)
 refine zs<|?_
 have hz:blS t n f s=Ms.z:=by rw [blS,if_pos (by assumption)]
 refine Af (by kernel_rfl)<|zp (Ae (s':= .d (.agg (Ms.c Ms.z))) (Aa (Ad R R A1 R lb)) (by rw [hz];rfl))<|?_
 refine zp (Cb (.agg (Ms.c Ms.z)) (Ae (s':= .d (.agg [dI 0,dI 0,dI 0,dI 0,dI 0,dI 0,dI 0,dI 0,dI 0,dI 0,dI 0,dI 0,dB false,dI 0,dI 0,dI 0,dI 0,dI 0,dI 0, .v (.string ⟨#[]⟩), .v (.slice none 0 0), .v (.slice none 0 0)])) (Aa (Ao (r:= [.d (dI 0), .d (dI 0), .d (dI 0), .d (dI 0), .d (dI 0), .d (dI 0), .d (dI 0), .d (dI 0), .d (dI 0), .d (dI 0), .d (dI 0), .d (dI 0), .d (dB false), .d (dI 0), .d (dI 0), .d (dI 0), .d (dI 0), .d (dI 0), .d (dI 0), .d (.v (.string ⟨#[]⟩)), .d (.v (.slice none 0 0)), .d (.v (.slice none 0 0))]) R Cz Bn (by kernel_rfl))) (by kernel_rfl)) (.agg (.cons (.same R) (.cons (.same R) (.cons (.same R) (.cons (.same R) (.cons (.same R) (.cons (.same R) (.cons (.same R) (.cons (.same R) (.cons (.same R) (.cons (.same R) (.cons (.same R) (.cons (.same R) (.cons (.same R) (.cons (.same R) (.cons (.same R) (.cons (.same R) (.cons (.same R) (.cons (.same R) (.cons (.same R) (.cons (.same R) (.cons (.nil 3) (.cons (.nil 2) (.nil)))))))))))))))))))))))))<|?_
 exact XL.call1 R R (Co (B9 Ms.z Ms.z) R) R<|za R R<|zn<|zt<|z1 R R (R)
 refine zi<|zs<|?_
 have hb0:blE t n f s=0:=by omega
 have hm0:¬mlE t n≠0:=fun e=>by rw [C4 e] at hb0;exact e hb0
 have hr0:¬(f< -7∨7<f∨s<1∨128<s):=fun e=>by rw [Cw hm0 e] at hb0;cases hb0
 have hy:blS t n f s=blM t n f s:=by rw [blS,if_neg (by omega)]
 refine Be [] (by kernel_rfl) (by kernel_rfl) (by kernel_rfl) (by decide)<|yp (Ae (s':= .d (.agg (Ms.c (blM t n f s)))) (Aa (Ad R R A1 R lb)) (by rw [hy];rfl))<|ym R R<|ChK.cons R (CStep.call R (Gc (Eg t n f s) (Fc hb0)) R)<|yp (Cd (A8 R R R) (R))<|ym R R<|?_
 refine yp (Ae (s':= .d (.agg (Ms.c (blM t n f s)))) (Aa (Ad R R A1 R lb)) (by rw [hy];rfl))<|yp (Ae (s':= .d (.agg (Me.c t))) (Aa (Ad R R A7 R lb)) (by kernel_rfl))<|ym R R<|ym R R<|ym R R<|ChK.cons R (CStep.call R (Di _ _ _ _ (by omega) (by omega) (by omega)) R)<|ChK.cons R (CStep.call R (Co (B9 _ _) R) R)<|?_
 refine yp (A4 R R (by conv=>lhs;whnf))<|?_
 refine ya R R<|?_
 refine ChK.nil ⟨by kernel_rfl, ?_⟩
 exact zt<|z1 R R (R)
 refine zm R R<|zp (A5 R R R)<|zq R R R<|zm R R<|?_
 refine XL.dec 50 R (fun g50=> ?_) (fun g50=> ?_)
 refine zk 2 R<|zq R R R<|zm R R<|zk 2 R<|zq R R R<|zq R R R<|zn<|Au (by kernel_rfl) R<|Af (by kernel_rfl)<|za R R<|zn<|zs<|zs<|?_
 have hb:blE t n f s=2:=by first|exact Cw (by omega) (by omega)|(by_cases hmm:mlE t n≠0;(· exact C4 hmm);(· rw [F0 hmm (by omega)];omega))
 refine Af (by kernel_rfl)<|XL.call1 R R (Dz) R<|zp (Cs R R)<|zm R R<|zm R R<|zm R R<|zp (Cm (As R R R) (fun e=>e (by rw [hb])))<|zq R R R<|zn<|Av (by kernel_rfl) R<|zi<|zs<|zr<|zm R R<|?_
 refine zp (As R R R)<|zn<|?_
 refine zd R (fun c67=> ?_) (fun c67=> ?_)
 refine zs<|?_
 have hz:blS t n f s=Ms.z:=by rw [blS,if_pos (by assumption)]
 refine Af (by kernel_rfl)<|zp (Ae (s':= .d (.agg (Ms.c Ms.z))) (Aa (Ad R R A1 R lb)) (by rw [hz];rfl))<|?_
 refine zp (Cb (.agg (Ms.c Ms.z)) (Ae (s':= .d (.agg [dI 0,dI 0,dI 0,dI 0,dI 0,dI 0,dI 0,dI 0,dI 0,dI 0,dI 0,dI 0,dB false,dI 0,dI 0,dI 0,dI 0,dI 0,dI 0, .v (.string ⟨#[]⟩), .v (.slice none 0 0), .v (.slice none 0 0)])) (Aa (Ao (r:= [.d (dI 0), .d (dI 0), .d (dI 0), .d (dI 0), .d (dI 0), .d (dI 0), .d (dI 0), .d (dI 0), .d (dI 0), .d (dI 0), .d (dI 0), .d (dI 0), .d (dB false), .d (dI 0), .d (dI 0), .d (dI 0), .d (dI 0), .d (dI 0), .d (dI 0), .d (.v (.string ⟨#[]⟩)), .d (.v (.slice none 0 0)), .d (.v (.slice none 0 0))]) R Cz Bn (by kernel_rfl))) (by kernel_rfl)) (.agg (.cons (.same R) (.cons (.same R) (.cons (.same R) (.cons (.same R) (.cons (.same R) (.cons (.same R) (.cons (.same R) (.cons (.same R) (.cons (.same R) (.cons (.same R) (.cons (.same R) (.cons (.same R) (.cons (.same R) (.cons (.same R) (.cons (.same R) (.cons (.same R) (.cons (.same R) (.cons (.same R) (.cons (.same R) (.cons (.same R) (.cons (.nil 3) (.cons (.nil 2) (.nil)))))))))))))))))))))))))<|?_
 exact XL.call1 R R (Co (B9 Ms.z Ms.z) R) R<|za R R<|zn<|zt<|z1 R R (R)
 refine zi<|zs<|?_
 have hb0:blE t n f s=0:=by omega
 have hm0:¬mlE t n≠0:=fun e=>by rw [C4 e] at hb0;exact e hb0
 have hr0:¬(f< -7∨7<f∨s<1∨128<s):=fun e=>by rw [Cw hm0 e] at hb0;cases hb0
 have hy:blS t n f s=blM t n f s:=by rw [blS,if_neg (by omega)]
 refine Be [] (by kernel_rfl) (by kernel_rfl) (by kernel_rfl) (by decide)<|yp (Ae (s':= .d (.agg (Ms.c (blM t n f s)))) (Aa (Ad R R A1 R lb)) (by rw [hy];rfl))<|ym R R<|ChK.cons R (CStep.call R (Gc (Eg t n f s) (Fc hb0)) R)<|yp (Cd (A8 R R R) (R))<|ym R R<|?_
 refine yp (Ae (s':= .d (.agg (Ms.c (blM t n f s)))) (Aa (Ad R R A1 R lb)) (by rw [hy];rfl))<|yp (Ae (s':= .d (.agg (Me.c t))) (Aa (Ad R R A7 R lb)) (by kernel_rfl))<|ym R R<|ym R R<|ym R R<|ChK.cons R (CStep.call R (Di _ _ _ _ (by omega) (by omega) (by omega)) R)<|ChK.cons R (CStep.call R (Co (B9 _ _) R) R)<|?_
 refine yp (A4 R R (by conv=>lhs;whnf))<|?_
 refine ya R R<|?_
 refine ChK.nil ⟨by kernel_rfl, ?_⟩
 exact zt<|z1 R R (R)
 refine zm R R<|zp (Ar R R R)<|zq R R R<|zm R R<|?_
 refine XL.dec 54 R (fun g54=> ?_) (fun g54=> ?_)
 refine zk 2 R<|zq R R R<|zq R R R<|zn<|Au (by kernel_rfl) R<|Af (by kernel_rfl)<|za R R<|zn<|zs<|zs<|?_
 have hb:blE t n f s=2:=by first|exact Cw (by omega) (by omega)|(by_cases hmm:mlE t n≠0;(· exact C4 hmm);(· rw [F0 hmm (by omega)];omega))
 refine Af (by kernel_rfl)<|XL.call1 R R (Dz) R<|zp (Cs R R)<|zm R R<|zm R R<|zm R R<|zp (Cm (As R R R) (fun e=>e (by rw [hb])))<|zq R R R<|zn<|Av (by kernel_rfl) R<|zi<|zs<|zr<|zm R R<|?_
 refine zp (As R R R)<|zn<|?_
 refine zd R (fun c67=> ?_) (fun c67=> ?_)
 refine zs<|?_
 have hz:blS t n f s=Ms.z:=by rw [blS,if_pos (by assumption)]
 refine Af (by kernel_rfl)<|zp (Ae (s':= .d (.agg (Ms.c Ms.z))) (Aa (Ad R R A1 R lb)) (by rw [hz];rfl))<|?_
 refine zp (Cb (.agg (Ms.c Ms.z)) (Ae (s':= .d (.agg [dI 0,dI 0,dI 0,dI 0,dI 0,dI 0,dI 0,dI 0,dI 0,dI 0,dI 0,dI 0,dB false,dI 0,dI 0,dI 0,dI 0,dI 0,dI 0, .v (.string ⟨#[]⟩), .v (.slice none 0 0), .v (.slice none 0 0)])) (Aa (Ao (r:= [.d (dI 0), .d (dI 0), .d (dI 0), .d (dI 0), .d (dI 0), .d (dI 0), .d (dI 0), .d (dI 0), .d (dI 0), .d (dI 0), .d (dI 0), .d (dI 0), .d (dB false), .d (dI 0), .d (dI 0), .d (dI 0), .d (dI 0), .d (dI 0), .d (dI 0), .d (.v (.string ⟨#[]⟩)), .d (.v (.slice none 0 0)), .d (.v (.slice none 0 0))]) R Cz Bn (by kernel_rfl))) (by kernel_rfl)) (.agg (.cons (.same R) (.cons (.same R) (.cons (.same R) (.cons (.same R) (.cons (.same R) (.cons (.same R) (.cons (.same R) (.cons (.same R) (.cons (.same R) (.cons (.same R) (.cons (.same R) (.cons (.same R) (.cons (.same R) (.cons (.same R) (.cons (.same R) (.cons (.same R) (.cons (.same R) (.cons (.same R) (.cons (.same R) (.cons (.same R) (.cons (.nil 3) (.cons (.nil 2) (.nil)))))))))))))))))))))))))<|?_
 exact XL.call1 R R (Co (B9 Ms.z Ms.z) R) R<|za R R<|zn<|zt<|z1 R R (R)
 refine zi<|zs<|?_
 have hb0:blE t n f s=0:=by omega
 have hm0:¬mlE t n≠0:=fun e=>by rw [C4 e] at hb0;exact e hb0
 have hr0:¬(f< -7∨7<f∨s<1∨128<s):=fun e=>by rw [Cw hm0 e] at hb0;cases hb0
 have hy:blS t n f s=blM t n f s:=by rw [blS,if_neg (by omega)]
 refine Be [] (by kernel_rfl) (by kernel_rfl) (by kernel_rfl) (by decide)<|yp (Ae (s':= .d (.agg (Ms.c (blM t n f s)))) (Aa (Ad R R A1 R lb)) (by rw [hy];rfl))<|ym R R<|ChK.cons R (CStep.call R (Gc (Eg t n f s) (Fc hb0)) R)<|yp (Cd (A8 R R R) (R))<|ym R R<|?_
 refine yp (Ae (s':= .d (.agg (Ms.c (blM t n f s)))) (Aa (Ad R R A1 R lb)) (by rw [hy];rfl))<|yp (Ae (s':= .d (.agg (Me.c t))) (Aa (Ad R R A7 R lb)) (by kernel_rfl))<|ym R R<|ym R R<|ym R R<|ChK.cons R (CStep.call R (Di _ _ _ _ (by omega) (by omega) (by omega)) R)<|ChK.cons R (CStep.call R (Co (B9 _ _) R) R)<|?_
 refine yp (A4 R R (by conv=>lhs;whnf))<|?_
 refine ya R R<|?_
 refine ChK.nil ⟨by kernel_rfl, ?_⟩
 exact zt<|z1 R R (R)
 refine zm R R<|zp (A5 R R R)<|zq R R R<|zq R R R<|zn<|?_
 refine zd R (fun c58=> ?_) (fun c58=> ?_)
 refine Af (by kernel_rfl)<|za R R<|zn<|zs<|zs<|?_
 have hb:blE t n f s=2:=by first|exact Cw (by omega) (by omega)|(by_cases hmm:mlE t n≠0;(· exact C4 hmm);(· rw [F0 hmm (by omega)];omega))
 refine Af (by kernel_rfl)<|XL.call1 R R (Dz) R<|zp (Cs R R)<|zm R R<|zm R R<|zm R R<|zp (Cm (As R R R) (fun e=>e (by rw [hb])))<|zq R R R<|zn<|Av (by kernel_rfl) R<|zi<|zs<|zr<|zm R R<|?_
 refine zp (As R R R)<|zn<|?_
 refine zd R (fun c67=> ?_) (fun c67=> ?_)
 refine zs<|?_
 have hz:blS t n f s=Ms.z:=by rw [blS,if_pos (by assumption)]
 refine Af (by kernel_rfl)<|zp (Ae (s':= .d (.agg (Ms.c Ms.z))) (Aa (Ad R R A1 R lb)) (by rw [hz];rfl))<|?_
 refine zp (Cb (.agg (Ms.c Ms.z)) (Ae (s':= .d (.agg [dI 0,dI 0,dI 0,dI 0,dI 0,dI 0,dI 0,dI 0,dI 0,dI 0,dI 0,dI 0,dB false,dI 0,dI 0,dI 0,dI 0,dI 0,dI 0, .v (.string ⟨#[]⟩), .v (.slice none 0 0), .v (.slice none 0 0)])) (Aa (Ao (r:= [.d (dI 0), .d (dI 0), .d (dI 0), .d (dI 0), .d (dI 0), .d (dI 0), .d (dI 0), .d (dI 0), .d (dI 0), .d (dI 0), .d (dI 0), .d (dI 0), .d (dB false), .d (dI 0), .d (dI 0), .d (dI 0), .d (dI 0), .d (dI 0), .d (dI 0), .d (.v (.string ⟨#[]⟩)), .d (.v (.slice none 0 0)), .d (.v (.slice none 0 0))]) R Cz Bn (by kernel_rfl))) (by kernel_rfl)) (.agg (.cons (.same R) (.cons (.same R) (.cons (.same R) (.cons (.same R) (.cons (.same R) (.cons (.same R) (.cons (.same R) (.cons (.same R) (.cons (.same R) (.cons (.same R) (.cons (.same R) (.cons (.same R) (.cons (.same R) (.cons (.same R) (.cons (.same R) (.cons (.same R) (.cons (.same R) (.cons (.same R) (.cons (.same R) (.cons (.same R) (.cons (.nil 3) (.cons (.nil 2) (.nil)))))))))))))))))))))))))<|?_
 exact XL.call1 R R (Co (B9 Ms.z Ms.z) R) R<|za R R<|zn<|zt<|z1 R R (R)
 refine zi<|zs<|?_
 have hb0:blE t n f s=0:=by omega
 have hm0:¬mlE t n≠0:=fun e=>by rw [C4 e] at hb0;exact e hb0
 have hr0:¬(f< -7∨7<f∨s<1∨128<s):=fun e=>by rw [Cw hm0 e] at hb0;cases hb0
 have hy:blS t n f s=blM t n f s:=by rw [blS,if_neg (by omega)]
 refine Be [] (by kernel_rfl) (by kernel_rfl) (by kernel_rfl) (by decide)<|yp (Ae (s':= .d (.agg (Ms.c (blM t n f s)))) (Aa (Ad R R A1 R lb)) (by rw [hy];rfl))<|ym R R<|ChK.cons R (CStep.call R (Gc (Eg t n f s) (Fc hb0)) R)<|yp (Cd (A8 R R R) (R))<|ym R R<|?_
 refine yp (Ae (s':= .d (.agg (Ms.c (blM t n f s)))) (Aa (Ad R R A1 R lb)) (by rw [hy];rfl))<|yp (Ae (s':= .d (.agg (Me.c t))) (Aa (Ad R R A7 R lb)) (by kernel_rfl))<|ym R R<|ym R R<|ym R R<|ChK.cons R (CStep.call R (Di _ _ _ _ (by omega) (by omega) (by omega)) R)<|ChK.cons R (CStep.call R (Co (B9 _ _) R) R)<|?_
 refine yp (A4 R R (by conv=>lhs;whnf))<|?_
 refine ya R R<|?_
 refine ChK.nil ⟨by kernel_rfl, ?_⟩
 exact zt<|z1 R R (R)
 refine zi<|zs<|zs<|?_
 have hb:blE t n f s=(mlE t n):=by first|exact Cw (by omega) (by omega)|(by_cases hmm:mlE t n≠0;(· exact C4 hmm);(· rw [F0 hmm (by omega)];omega))
 refine Af (by kernel_rfl)<|XL.call1 R R (Dz) R<|zp (Cs R R)<|zm R R<|zm R R<|zm R R<|zp (Cm (As R R R) (fun e=>e (by rw [hb])))<|zq R R R<|zn<|Av (by kernel_rfl) R<|zi<|zs<|zr<|zm R R<|?_
 refine zp (As R R R)<|zn<|?_
 refine zd R (fun c67=> ?_) (fun c67=> ?_)
 refine zs<|?_
 have hz:blS t n f s=Ms.z:=by rw [blS,if_pos (by assumption)]
 refine Af (by kernel_rfl)<|zp (Ae (s':= .d (.agg (Ms.c Ms.z))) (Aa (Ad R R A1 R lb)) (by rw [hz];rfl))<|?_
 refine zp (Cb (.agg (Ms.c Ms.z)) (Ae (s':= .d (.agg [dI 0,dI 0,dI 0,dI 0,dI 0,dI 0,dI 0,dI 0,dI 0,dI 0,dI 0,dI 0,dB false,dI 0,dI 0,dI 0,dI 0,dI 0,dI 0, .v (.string ⟨#[]⟩), .v (.slice none 0 0), .v (.slice none 0 0)])) (Aa (Ao (r:= [.d (dI 0), .d (dI 0), .d (dI 0), .d (dI 0), .d (dI 0), .d (dI 0), .d (dI 0), .d (dI 0), .d (dI 0), .d (dI 0), .d (dI 0), .d (dI 0), .d (dB false), .d (dI 0), .d (dI 0), .d (dI 0), .d (dI 0), .d (dI 0), .d (dI 0), .d (.v (.string ⟨#[]⟩)), .d (.v (.slice none 0 0)), .d (.v (.slice none 0 0))]) R Cz Bn (by kernel_rfl))) (by kernel_rfl)) (.agg (.cons (.same R) (.cons (.same R) (.cons (.same R) (.cons (.same R) (.cons (.same R) (.cons (.same R) (.cons (.same R) (.cons (.same R) (.cons (.same R) (.cons (.same R) (.cons (.same R) (.cons (.same R) (.cons (.same R) (.cons (.same R) (.cons (.same R) (.cons (.same R) (.cons (.same R) (.cons (.same R) (.cons (.same R) (.cons (.same R) (.cons (.nil 3) (.cons (.nil 2) (.nil)))))))))))))))))))))))))<|?_
 exact XL.call1 R R (Co (B9 Ms.z Ms.z) R) R<|za R R<|zn<|zt<|z1 R R (R)
 refine zi<|zs<|?_
 have hb0:blE t n f s=0:=by omega
 have hm0:¬mlE t n≠0:=fun e=>by rw [C4 e] at hb0;exact e hb0
 have hr0:¬(f< -7∨7<f∨s<1∨128<s):=fun e=>by rw [Cw hm0 e] at hb0;cases hb0
 have hy:blS t n f s=blM t n f s:=by rw [blS,if_neg (by omega)]
 refine Be [] (by kernel_rfl) (by kernel_rfl) (by kernel_rfl) (by decide)<|yp (Ae (s':= .d (.agg (Ms.c (blM t n f s)))) (Aa (Ad R R A1 R lb)) (by rw [hy];rfl))<|ym R R<|ChK.cons R (CStep.call R (Gc (Eg t n f s) (Fc hb0)) R)<|yp (Cd (A8 R R R) (R))<|ym R R<|?_
 refine yp (Ae (s':= .d (.agg (Ms.c (blM t n f s)))) (Aa (Ad R R A1 R lb)) (by rw [hy];rfl))<|yp (Ae (s':= .d (.agg (Me.c t))) (Aa (Ad R R A7 R lb)) (by kernel_rfl))<|ym R R<|ym R R<|ym R R<|ChK.cons R (CStep.call R (Di _ _ _ _ (by omega) (by omega) (by omega)) R)<|ChK.cons R (CStep.call R (Co (B9 _ _) R) R)<|?_
 refine yp (A4 R R (by conv=>lhs;whnf))<|?_
 refine ya R R<|?_
 refine ChK.nil ⟨by kernel_rfl, ?_⟩
 exact zt<|z1 R R (R)
 refine zk 14 R<|zq R R R<|zn<|Av (by kernel_rfl) R<|zi<|zs<|zs<|?_
 have hb:blE t n f s=(mlE t n):=by first|exact Cw (by omega) (by omega)|(by_cases hmm:mlE t n≠0;(· exact C4 hmm);(· rw [F0 hmm (by omega)];omega))
 refine Af (by kernel_rfl)<|XL.call1 R R (Dz) R<|zp (Cs R R)<|zm R R<|zm R R<|zm R R<|zp (Cm (As R R R) (fun e=>e (by rw [hb])))<|zq R R R<|zn<|Av (by kernel_rfl) R<|zi<|zs<|zr<|zm R R<|?_
 refine zp (As R R R)<|zn<|?_
 refine zd R (fun c67=> ?_) (fun c67=> ?_)
 refine zs<|?_
 have hz:blS t n f s=Ms.z:=by rw [blS,if_pos (by assumption)]
 refine Af (by kernel_rfl)<|zp (Ae (s':= .d (.agg (Ms.c Ms.z))) (Aa (Ad R R A1 R lb)) (by rw [hz];rfl))<|?_
 refine zp (Cb (.agg (Ms.c Ms.z)) (Ae (s':= .d (.agg [dI 0,dI 0,dI 0,dI 0,dI 0,dI 0,dI 0,dI 0,dI 0,dI 0,dI 0,dI 0,dB false,dI 0,dI 0,dI 0,dI 0,dI 0,dI 0, .v (.string ⟨#[]⟩), .v (.slice none 0 0), .v (.slice none 0 0)])) (Aa (Ao (r:= [.d (dI 0), .d (dI 0), .d (dI 0), .d (dI 0), .d (dI 0), .d (dI 0), .d (dI 0), .d (dI 0), .d (dI 0), .d (dI 0), .d (dI 0), .d (dI 0), .d (dB false), .d (dI 0), .d (dI 0), .d (dI 0), .d (dI 0), .d (dI 0), .d (dI 0), .d (.v (.string ⟨#[]⟩)), .d (.v (.slice none 0 0)), .d (.v (.slice none 0 0))]) R Cz Bn (by kernel_rfl))) (by kernel_rfl)) (.agg (.cons (.same R) (.cons (.same R) (.cons (.same R) (.cons (.same R) (.cons (.same R) (.cons (.same R) (.cons (.same R) (.cons (.same R) (.cons (.same R) (.cons (.same R) (.cons (.same R) (.cons (.same R) (.cons (.same R) (.cons (.same R) (.cons (.same R) (.cons (.same R) (.cons (.same R) (.cons (.same R) (.cons (.same R) (.cons (.same R) (.cons (.nil 3) (.cons (.nil 2) (.nil)))))))))))))))))))))))))<|?_
 exact XL.call1 R R (Co (B9 Ms.z Ms.z) R) R<|za R R<|zn<|zt<|z1 R R (R)
 refine zi<|zs<|?_
 have hb0:blE t n f s=0:=by omega
 have hm0:¬mlE t n≠0:=fun e=>by rw [C4 e] at hb0;exact e hb0
 have hr0:¬(f< -7∨7<f∨s<1∨128<s):=fun e=>by rw [Cw hm0 e] at hb0;cases hb0
 have hy:blS t n f s=blM t n f s:=by rw [blS,if_neg (by omega)]
 refine Be [] (by kernel_rfl) (by kernel_rfl) (by kernel_rfl) (by decide)<|yp (Ae (s':= .d (.agg (Ms.c (blM t n f s)))) (Aa (Ad R R A1 R lb)) (by rw [hy];rfl))<|ym R R<|ChK.cons R (CStep.call R (Gc (Eg t n f s) (Fc hb0)) R)<|yp (Cd (A8 R R R) (R))<|ym R R<|?_
 refine yp (Ae (s':= .d (.agg (Ms.c (blM t n f s)))) (Aa (Ad R R A1 R lb)) (by rw [hy];rfl))<|yp (Ae (s':= .d (.agg (Me.c t))) (Aa (Ad R R A7 R lb)) (by kernel_rfl))<|ym R R<|ym R R<|ym R R<|ChK.cons R (CStep.call R (Di _ _ _ _ (by omega) (by omega) (by omega)) R)<|ChK.cons R (CStep.call R (Co (B9 _ _) R) R)<|?_
 refine yp (A4 R R (by conv=>lhs;whnf))<|?_
 refine ya R R<|?_
 refine ChK.nil ⟨by kernel_rfl, ?_⟩
 exact zt<|z1 R R (R)
theorem Aiz (t:Me) (n f s:Int) (h:128<s):XC Tryz.prog 12 [.agg (Me.c t), .agg [dI n,dI f,dI s]] (fun r=>r=dB true):=by
 refine Aj Nw Tryz.func12 R R lb<|zr<|XL.step R (Aq 2 (l:= [.d (dI t.count), .d (dI t.unit), .d (dI t.g0), .d (dI t.g1), .d (dI t.g2), .d (dI t.g3), .d (dI t.g4), .d (dI t.g5)]) R R (by kernel_rfl))<|XL.step R (Aq 3 (l:= [.d (dI n), .d (dI f), .d (dI s)]) R R (by kernel_rfl))<|za R R<|zn<|zs<|Be [] (by kernel_rfl) (by kernel_rfl) (by kernel_rfl) (by decide)<|?_
 refine yp (Gk (k:=0) R R R Tryz.underlying97 Dv (by omega))<|yp (Ab R R Ai R R)<|yp (Gk (k:=1) R R R Tryz.underlying97 Dv (by omega))<|yp (Ab R R Ai R R)<|yp (Gk (k:=2) R R R Tryz.underlying97 Dv (by omega))<|yp (Ab R R Ai R R)<|ya R R<|ya R R<|ya R R<|?_
 refine ChK.nil ⟨by kernel_rfl, ?_⟩
 refine zs<|zr<|zm R R<|zp (Cd (A5 R R R) (by omega))<|zm R R<|zm R R<|zp (Cm (Jy R R R) (by omega))<|zq R R R<|zn<|Av (by kernel_rfl) R<|zi<|zr<|zp (Ae (s':= .d (.agg (Me.c t))) (Aa (Ad R R A7 R lb)) (by kernel_rfl))<|zm R R<|?_
 refine zm R R<|zm R R<|XL.call1 R R (Ta _ _ _ _) R<|zm R R<|zp (An R R R)<|zp (An R R R)<|?_
 refine XL.step R (Al 8 (l:= [.d (dI 0), .d (dI 0), .d (dI 0), .d (dI 0), .d (dI 0), .d (dI 0), .d (dI 0), .d (dI 0), .d (dI 0), .d (dI 0), .d (dI 0), .d (dI 0), .d (dB false), .d (dI 0), .d (dI 0), .d (dI 0), .d (dI 0), .d (dI 0), .d (dI 0), .d (.v (.string ⟨#[]⟩)), .d (.v (.slice none 0 0)), .d (.v (.slice none 0 0))]) R Bn (by kernel_rfl))<|?_
 refine XL.step R (Ag (l':= [.d (dI (blS t n f s).h.site), .d (dI (blS t n f s).h.num), .d (dI (blS t n f s).h.m.count), .d (dI (blS t n f s).h.m.unit), .d (dI (blS t n f s).h.m.g0), .d (dI (blS t n f s).h.m.g1), .d (dI (blS t n f s).h.m.g2), .d (dI (blS t n f s).h.m.g3), .d (dI (blS t n f s).h.m.g4), .d (dI (blS t n f s).h.m.g5), .d (dI (blS t n f s).h.len), .d (dI (blS t n f s).h.fifths), .d (dB (blS t n f s).h.start), .d (dI (blS t n f s).h.fin), .d (dI (blS t n f s).h.ends), .d (dI (blS t n f s).h.jump), .d (dI (blS t n f s).h.labels), .d (dI (blS t n f s).h.swing), .d (dI (blS t n f s).h.brk), .d (.v (.string ⟨(blS t n f s).h.reh.toArray⟩)), .d (.sl 3 ((blS t n f s).tempi.map Tm.c)), .d (.sl 2 ((blS t n f s).cells.map Ce.c))]) R R R R Ed R lb (by kernel_rfl))<|?_
 refine za R R<|znr<|zp (Ae (s':= .d (.agg (Me.c t))) (Aa (Ad R R A7 R lb)) (by kernel_rfl))<|zm R R<|?_
 refine zp (Ae (s':= .d (.agg [dI 0,dI 0,dI t.count,dI t.unit,dI t.g0,dI t.g1,dI t.g2,dI t.g3,dI t.g4,dI t.g5,dI n,dI 0,dB false,dI 0,dI 0,dI 0,dI 0,dI 0,dI 0, .v (.string ⟨#[]⟩), .v (.slice none 0 0), .v (.slice none 0 0)])) (Aa (Ao (r:= [.d (dI 0), .d (dI 0), .d (dI t.count), .d (dI t.unit), .d (dI t.g0), .d (dI t.g1), .d (dI t.g2), .d (dI t.g3), .d (dI t.g4), .d (dI t.g5), .d (dI n), .d (dI 0), .d (dB false), .d (dI 0), .d (dI 0), .d (dI 0), .d (dI 0), .d (dI 0), .d (dI 0), .d (.v (.string ⟨#[]⟩)), .d (.v (.slice none 0 0)), .d (.v (.slice none 0 0))]) R Cz Bn (by kernel_rfl))) (by kernel_rfl))<|?_
 refine XL.call1 R R (Ym t n) R<|zm R R<|zp (An R R R)<|zp (An R R R)<|za R R<|za R R<|zn<|zs<|zr<|zm R R<|zp (A8 R R R)<|zm R R<|?_
 refine XL.dec 43 R (fun g43=> ?_) (fun g43=> ?_)
 refine zm R R<|zp (Ar R R R)<|zm R R<|?_
 refine XL.dec 46 R (fun g46=> ?_) (fun g46=> ?_)
 refine zk 2 R<|zq R R R<|zm R R<|zk 2 R<|zq R R R<|zm R R<|zk 2 R<|zq R R R<|zq R R R<|zn<|Au (by kernel_rfl) R<|Af (by kernel_rfl)<|za R R<|zn<|?_
 refine zs<|zs<|?_
 have hb:blE t n f s=2:=by first|exact Cw (by omega) (by omega)|(by_cases hmm:mlE t n≠0;(· exact C4 hmm);(· rw [F0 hmm (by omega)];omega))
 refine Af (by kernel_rfl)<|XL.call1 R R (Dz) R<|zp (Cs R R)<|zm R R<|zm R R<|zm R R<|zp (Cm (As R R R) (fun e=>e (by rw [hb])))<|zq R R R<|zn<|Av (by kernel_rfl) R<|zi<|zs<|zr<|zm R R<|?_
 refine zp (As R R R)<|zn<|?_
 refine zd R (fun c67=> ?_) (fun c67=> ?_)
 refine zs<|?_
 have hz:blS t n f s=Ms.z:=by rw [blS,if_pos (by assumption)]
 refine Af (by kernel_rfl)<|zp (Ae (s':= .d (.agg (Ms.c Ms.z))) (Aa (Ad R R A1 R lb)) (by rw [hz];rfl))<|?_
 refine zp (Cb (.agg (Ms.c Ms.z)) (Ae (s':= .d (.agg [dI 0,dI 0,dI 0,dI 0,dI 0,dI 0,dI 0,dI 0,dI 0,dI 0,dI 0,dI 0,dB false,dI 0,dI 0,dI 0,dI 0,dI 0,dI 0, .v (.string ⟨#[]⟩), .v (.slice none 0 0), .v (.slice none 0 0)])) (Aa (Ao (r:= [.d (dI 0), .d (dI 0), .d (dI 0), .d (dI 0), .d (dI 0), .d (dI 0), .d (dI 0), .d (dI 0), .d (dI 0), .d (dI 0), .d (dI 0), .d (dI 0), .d (dB false), .d (dI 0), .d (dI 0), .d (dI 0), .d (dI 0), .d (dI 0), .d (dI 0), .d (.v (.string ⟨#[]⟩)), .d (.v (.slice none 0 0)), .d (.v (.slice none 0 0))]) R Cz Bn (by kernel_rfl))) (by kernel_rfl)) (.agg (.cons (.same R) (.cons (.same R) (.cons (.same R) (.cons (.same R) (.cons (.same R) (.cons (.same R) (.cons (.same R) (.cons (.same R) (.cons (.same R) (.cons (.same R) (.cons (.same R) (.cons (.same R) (.cons (.same R) (.cons (.same R) (.cons (.same R) (.cons (.same R) (.cons (.same R) (.cons (.same R) (.cons (.same R) (.cons (.same R) (.cons (.nil 3) (.cons (.nil 2) (.nil)))))))))))))))))))))))))<|?_
 exact XL.call1 R R (Co (B9 Ms.z Ms.z) R) R<|za R R<|zn<|zt<|z1 R R (R)
 refine zi<|zs<|?_
 have hb0:blE t n f s=0:=by omega
 have hm0:¬mlE t n≠0:=fun e=>by rw [C4 e] at hb0;exact e hb0
 have hr0:¬(f< -7∨7<f∨s<1∨128<s):=fun e=>by rw [Cw hm0 e] at hb0;cases hb0
 have hy:blS t n f s=blM t n f s:=by rw [blS,if_neg (by omega)]
 refine Be [] (by kernel_rfl) (by kernel_rfl) (by kernel_rfl) (by decide)<|yp (Ae (s':= .d (.agg (Ms.c (blM t n f s)))) (Aa (Ad R R A1 R lb)) (by rw [hy];rfl))<|ym R R<|ChK.cons R (CStep.call R (Gc (Eg t n f s) (Fc hb0)) R)<|yp (Cd (A8 R R R) (R))<|ym R R<|?_
 refine yp (Ae (s':= .d (.agg (Ms.c (blM t n f s)))) (Aa (Ad R R A1 R lb)) (by rw [hy];rfl))<|yp (Ae (s':= .d (.agg (Me.c t))) (Aa (Ad R R A7 R lb)) (by kernel_rfl))<|ym R R<|ym R R<|ym R R<|ChK.cons R (CStep.call R (Di _ _ _ _ (by omega) (by omega) (by omega)) R)<|ChK.cons R (CStep.call R (Co (B9 _ _) R) R)<|?_
 refine yp (A4 R R (by conv=>lhs;whnf))<|?_
 refine ya R R<|?_
 refine ChK.nil ⟨by kernel_rfl, ?_⟩
 exact zt<|z1 R R (R)
 refine zm R R<|zp (A5 R R R)<|zq R R R<|zm R R<|?_
 refine XL.dec 50 R (fun g50=> ?_) (fun g50=> ?_)
 refine zk 2 R<|zq R R R<|zm R R<|zk 2 R<|zq R R R<|zq R R R<|zn<|Au (by kernel_rfl) R<|Af (by kernel_rfl)<|za R R<|zn<|zs<|zs<|?_
 have hb:blE t n f s=2:=by first|exact Cw (by omega) (by omega)|(by_cases hmm:mlE t n≠0;(· exact C4 hmm);(· rw [F0 hmm (by omega)];omega))
 refine Af (by kernel_rfl)<|XL.call1 R R (Dz) R<|zp (Cs R R)<|zm R R<|zm R R<|zm R R<|zp (Cm (As R R R) (fun e=>e (by rw [hb])))<|zq R R R<|zn<|Av (by kernel_rfl) R<|zi<|zs<|zr<|zm R R<|?_
 refine zp (As R R R)<|zn<|?_
 refine zd R (fun c67=> ?_) (fun c67=> ?_)
 refine zs<|?_
 have hz:blS t n f s=Ms.z:=by rw [blS,if_pos (by assumption)]
 refine Af (by kernel_rfl)<|zp (Ae (s':= .d (.agg (Ms.c Ms.z))) (Aa (Ad R R A1 R lb)) (by rw [hz];rfl))<|?_
 refine zp (Cb (.agg (Ms.c Ms.z)) (Ae (s':= .d (.agg [dI 0,dI 0,dI 0,dI 0,dI 0,dI 0,dI 0,dI 0,dI 0,dI 0,dI 0,dI 0,dB false,dI 0,dI 0,dI 0,dI 0,dI 0,dI 0, .v (.string ⟨#[]⟩), .v (.slice none 0 0), .v (.slice none 0 0)])) (Aa (Ao (r:= [.d (dI 0), .d (dI 0), .d (dI 0), .d (dI 0), .d (dI 0), .d (dI 0), .d (dI 0), .d (dI 0), .d (dI 0), .d (dI 0), .d (dI 0), .d (dI 0), .d (dB false), .d (dI 0), .d (dI 0), .d (dI 0), .d (dI 0), .d (dI 0), .d (dI 0), .d (.v (.string ⟨#[]⟩)), .d (.v (.slice none 0 0)), .d (.v (.slice none 0 0))]) R Cz Bn (by kernel_rfl))) (by kernel_rfl)) (.agg (.cons (.same R) (.cons (.same R) (.cons (.same R) (.cons (.same R) (.cons (.same R) (.cons (.same R) (.cons (.same R) (.cons (.same R) (.cons (.same R) (.cons (.same R) (.cons (.same R) (.cons (.same R) (.cons (.same R) (.cons (.same R) (.cons (.same R) (.cons (.same R) (.cons (.same R) (.cons (.same R) (.cons (.same R) (.cons (.same R) (.cons (.nil 3) (.cons (.nil 2) (.nil)))))))))))))))))))))))))<|?_
 exact XL.call1 R R (Co (B9 Ms.z Ms.z) R) R<|za R R<|zn<|zt<|z1 R R (R)
 refine zi<|zs<|?_
 have hb0:blE t n f s=0:=by omega
 have hm0:¬mlE t n≠0:=fun e=>by rw [C4 e] at hb0;exact e hb0
 have hr0:¬(f< -7∨7<f∨s<1∨128<s):=fun e=>by rw [Cw hm0 e] at hb0;cases hb0
 have hy:blS t n f s=blM t n f s:=by rw [blS,if_neg (by omega)]
 refine Be [] (by kernel_rfl) (by kernel_rfl) (by kernel_rfl) (by decide)<|yp (Ae (s':= .d (.agg (Ms.c (blM t n f s)))) (Aa (Ad R R A1 R lb)) (by rw [hy];rfl))<|ym R R<|ChK.cons R (CStep.call R (Gc (Eg t n f s) (Fc hb0)) R)<|yp (Cd (A8 R R R) (R))<|ym R R<|?_
 refine yp (Ae (s':= .d (.agg (Ms.c (blM t n f s)))) (Aa (Ad R R A1 R lb)) (by rw [hy];rfl))<|yp (Ae (s':= .d (.agg (Me.c t))) (Aa (Ad R R A7 R lb)) (by kernel_rfl))<|ym R R<|ym R R<|ym R R<|ChK.cons R (CStep.call R (Di _ _ _ _ (by omega) (by omega) (by omega)) R)<|ChK.cons R (CStep.call R (Co (B9 _ _) R) R)<|?_
 refine yp (A4 R R (by conv=>lhs;whnf))<|?_
 refine ya R R<|?_
 refine ChK.nil ⟨by kernel_rfl, ?_⟩
 exact zt<|z1 R R (R)
 refine zm R R<|zp (Ar R R R)<|zq R R R<|zm R R<|?_
 refine XL.dec 54 R (fun g54=> ?_) (fun g54=> ?_)
 refine zk 2 R<|zq R R R<|zq R R R<|zn<|Au (by kernel_rfl) R<|Af (by kernel_rfl)<|za R R<|zn<|zs<|zs<|?_
 have hb:blE t n f s=2:=by first|exact Cw (by omega) (by omega)|(by_cases hmm:mlE t n≠0;(· exact C4 hmm);(· rw [F0 hmm (by omega)];omega))
 refine Af (by kernel_rfl)<|XL.call1 R R (Dz) R<|zp (Cs R R)<|zm R R<|zm R R<|zm R R<|zp (Cm (As R R R) (fun e=>e (by rw [hb])))<|zq R R R<|zn<|Av (by kernel_rfl) R<|zi<|zs<|zr<|zm R R<|?_
 refine zp (As R R R)<|zn<|?_
 refine zd R (fun c67=> ?_) (fun c67=> ?_)
 refine zs<|?_
 have hz:blS t n f s=Ms.z:=by rw [blS,if_pos (by assumption)]
 refine Af (by kernel_rfl)<|zp (Ae (s':= .d (.agg (Ms.c Ms.z))) (Aa (Ad R R A1 R lb)) (by rw [hz];rfl))<|?_
 refine zp (Cb (.agg (Ms.c Ms.z)) (Ae (s':= .d (.agg [dI 0,dI 0,dI 0,dI 0,dI 0,dI 0,dI 0,dI 0,dI 0,dI 0,dI 0,dI 0,dB false,dI 0,dI 0,dI 0,dI 0,dI 0,dI 0, .v (.string ⟨#[]⟩), .v (.slice none 0 0), .v (.slice none 0 0)])) (Aa (Ao (r:= [.d (dI 0), .d (dI 0), .d (dI 0), .d (dI 0), .d (dI 0), .d (dI 0), .d (dI 0), .d (dI 0), .d (dI 0), .d (dI 0), .d (dI 0), .d (dI 0), .d (dB false), .d (dI 0), .d (dI 0), .d (dI 0), .d (dI 0), .d (dI 0), .d (dI 0), .d (.v (.string ⟨#[]⟩)), .d (.v (.slice none 0 0)), .d (.v (.slice none 0 0))]) R Cz Bn (by kernel_rfl))) (by kernel_rfl)) (.agg (.cons (.same R) (.cons (.same R) (.cons (.same R) (.cons (.same R) (.cons (.same R) (.cons (.same R) (.cons (.same R) (.cons (.same R) (.cons (.same R) (.cons (.same R) (.cons (.same R) (.cons (.same R) (.cons (.same R) (.cons (.same R) (.cons (.same R) (.cons (.same R) (.cons (.same R) (.cons (.same R) (.cons (.same R) (.cons (.same R) (.cons (.nil 3) (.cons (.nil 2) (.nil)))))))))))))))))))))))))<|?_
 exact XL.call1 R R (Co (B9 Ms.z Ms.z) R) R<|za R R<|zn<|zt<|z1 R R (R)
 refine zi<|zs<|?_
 have hb0:blE t n f s=0:=by omega
 have hm0:¬mlE t n≠0:=fun e=>by rw [C4 e] at hb0;exact e hb0
 have hr0:¬(f< -7∨7<f∨s<1∨128<s):=fun e=>by rw [Cw hm0 e] at hb0;cases hb0
 have hy:blS t n f s=blM t n f s:=by rw [blS,if_neg (by omega)]
 refine Be [] (by kernel_rfl) (by kernel_rfl) (by kernel_rfl) (by decide)<|yp (Ae (s':= .d (.agg (Ms.c (blM t n f s)))) (Aa (Ad R R A1 R lb)) (by rw [hy];rfl))<|ym R R<|ChK.cons R (CStep.call R (Gc (Eg t n f s) (Fc hb0)) R)<|yp (Cd (A8 R R R) (R))<|ym R R<|?_
 refine yp (Ae (s':= .d (.agg (Ms.c (blM t n f s)))) (Aa (Ad R R A1 R lb)) (by rw [hy];rfl))<|yp (Ae (s':= .d (.agg (Me.c t))) (Aa (Ad R R A7 R lb)) (by kernel_rfl))<|ym R R<|ym R R<|ym R R<|ChK.cons R (CStep.call R (Di _ _ _ _ (by omega) (by omega) (by omega)) R)<|ChK.cons R (CStep.call R (Co (B9 _ _) R) R)<|?_
 refine yp (A4 R R (by conv=>lhs;whnf))<|?_
 refine ya R R<|?_
 refine ChK.nil ⟨by kernel_rfl, ?_⟩
 exact zt<|z1 R R (R)
 refine zm R R<|zp (A5 R R R)<|zq R R R<|zq R R R<|zn<|?_
 refine zd R (fun c58=> ?_) (fun c58=> ?_)
 refine Af (by kernel_rfl)<|za R R<|zn<|zs<|zs<|?_
 have hb:blE t n f s=2:=by first|exact Cw (by omega) (by omega)|(by_cases hmm:mlE t n≠0;(· exact C4 hmm);(· rw [F0 hmm (by omega)];omega))
 refine Af (by kernel_rfl)<|XL.call1 R R (Dz) R<|zp (Cs R R)<|zm R R<|zm R R<|zm R R<|zp (Cm (As R R R) (fun e=>e (by rw [hb])))<|zq R R R<|zn<|Av (by kernel_rfl) R<|zi<|zs<|zr<|zm R R<|?_
 refine zp (As R R R)<|zn<|?_
 refine zd R (fun c67=> ?_) (fun c67=> ?_)
 refine zs<|?_
 have hz:blS t n f s=Ms.z:=by rw [blS,if_pos (by assumption)]
 refine Af (by kernel_rfl)<|zp (Ae (s':= .d (.agg (Ms.c Ms.z))) (Aa (Ad R R A1 R lb)) (by rw [hz];rfl))<|?_
 refine zp (Cb (.agg (Ms.c Ms.z)) (Ae (s':= .d (.agg [dI 0,dI 0,dI 0,dI 0,dI 0,dI 0,dI 0,dI 0,dI 0,dI 0,dI 0,dI 0,dB false,dI 0,dI 0,dI 0,dI 0,dI 0,dI 0, .v (.string ⟨#[]⟩), .v (.slice none 0 0), .v (.slice none 0 0)])) (Aa (Ao (r:= [.d (dI 0), .d (dI 0), .d (dI 0), .d (dI 0), .d (dI 0), .d (dI 0), .d (dI 0), .d (dI 0), .d (dI 0), .d (dI 0), .d (dI 0), .d (dI 0), .d (dB false), .d (dI 0), .d (dI 0), .d (dI 0), .d (dI 0), .d (dI 0), .d (dI 0), .d (.v (.string ⟨#[]⟩)), .d (.v (.slice none 0 0)), .d (.v (.slice none 0 0))]) R Cz Bn (by kernel_rfl))) (by kernel_rfl)) (.agg (.cons (.same R) (.cons (.same R) (.cons (.same R) (.cons (.same R) (.cons (.same R) (.cons (.same R) (.cons (.same R) (.cons (.same R) (.cons (.same R) (.cons (.same R) (.cons (.same R) (.cons (.same R) (.cons (.same R) (.cons (.same R) (.cons (.same R) (.cons (.same R) (.cons (.same R) (.cons (.same R) (.cons (.same R) (.cons (.same R) (.cons (.nil 3) (.cons (.nil 2) (.nil)))))))))))))))))))))))))<|?_
 exact XL.call1 R R (Co (B9 Ms.z Ms.z) R) R<|za R R<|zn<|zt<|z1 R R (R)
 refine zi<|zs<|?_
 have hb0:blE t n f s=0:=by omega
 have hm0:¬mlE t n≠0:=fun e=>by rw [C4 e] at hb0;exact e hb0
 have hr0:¬(f< -7∨7<f∨s<1∨128<s):=fun e=>by rw [Cw hm0 e] at hb0;cases hb0
 have hy:blS t n f s=blM t n f s:=by rw [blS,if_neg (by omega)]
 refine Be [] (by kernel_rfl) (by kernel_rfl) (by kernel_rfl) (by decide)<|yp (Ae (s':= .d (.agg (Ms.c (blM t n f s)))) (Aa (Ad R R A1 R lb)) (by rw [hy];rfl))<|ym R R<|ChK.cons R (CStep.call R (Gc (Eg t n f s) (Fc hb0)) R)<|yp (Cd (A8 R R R) (R))<|ym R R<|?_
 refine yp (Ae (s':= .d (.agg (Ms.c (blM t n f s)))) (Aa (Ad R R A1 R lb)) (by rw [hy];rfl))<|yp (Ae (s':= .d (.agg (Me.c t))) (Aa (Ad R R A7 R lb)) (by kernel_rfl))<|ym R R<|ym R R<|ym R R<|ChK.cons R (CStep.call R (Di _ _ _ _ (by omega) (by omega) (by omega)) R)<|ChK.cons R (CStep.call R (Co (B9 _ _) R) R)<|?_
 refine yp (A4 R R (by conv=>lhs;whnf))<|?_
 refine ya R R<|?_
 refine ChK.nil ⟨by kernel_rfl, ?_⟩
 exact zt<|z1 R R (R)
 refine zi<|zs<|zs<|?_
 have hb:blE t n f s=(mlE t n):=by first|exact Cw (by omega) (by omega)|(by_cases hmm:mlE t n≠0;(· exact C4 hmm);(· rw [F0 hmm (by omega)];omega))
 refine Af (by kernel_rfl)<|XL.call1 R R (Dz) R<|zp (Cs R R)<|zm R R<|zm R R<|zm R R<|zp (Cm (As R R R) (fun e=>e (by rw [hb])))<|zq R R R<|zn<|Av (by kernel_rfl) R<|zi<|zs<|zr<|zm R R<|?_
 refine zp (As R R R)<|zn<|?_
 refine zd R (fun c67=> ?_) (fun c67=> ?_)
 refine zs<|?_
 have hz:blS t n f s=Ms.z:=by rw [blS,if_pos (by assumption)]
 refine Af (by kernel_rfl)<|zp (Ae (s':= .d (.agg (Ms.c Ms.z))) (Aa (Ad R R A1 R lb)) (by rw [hz];rfl))<|?_
 refine zp (Cb (.agg (Ms.c Ms.z)) (Ae (s':= .d (.agg [dI 0,dI 0,dI 0,dI 0,dI 0,dI 0,dI 0,dI 0,dI 0,dI 0,dI 0,dI 0,dB false,dI 0,dI 0,dI 0,dI 0,dI 0,dI 0, .v (.string ⟨#[]⟩), .v (.slice none 0 0), .v (.slice none 0 0)])) (Aa (Ao (r:= [.d (dI 0), .d (dI 0), .d (dI 0), .d (dI 0), .d (dI 0), .d (dI 0), .d (dI 0), .d (dI 0), .d (dI 0), .d (dI 0), .d (dI 0), .d (dI 0), .d (dB false), .d (dI 0), .d (dI 0), .d (dI 0), .d (dI 0), .d (dI 0), .d (dI 0), .d (.v (.string ⟨#[]⟩)), .d (.v (.slice none 0 0)), .d (.v (.slice none 0 0))]) R Cz Bn (by kernel_rfl))) (by kernel_rfl)) (.agg (.cons (.same R) (.cons (.same R) (.cons (.same R) (.cons (.same R) (.cons (.same R) (.cons (.same R) (.cons (.same R) (.cons (.same R) (.cons (.same R) (.cons (.same R) (.cons (.same R) (.cons (.same R) (.cons (.same R) (.cons (.same R) (.cons (.same R) (.cons (.same R) (.cons (.same R) (.cons (.same R) (.cons (.same R) (.cons (.same R) (.cons (.nil 3) (.cons (.nil 2) (.nil)))))))))))))))))))))))))<|?_
 exact XL.call1 R R (Co (B9 Ms.z Ms.z) R) R<|za R R<|zn<|zt<|z1 R R (R)
 refine zi<|zs<|?_
 have hb0:blE t n f s=0:=by omega
 have hm0:¬mlE t n≠0:=fun e=>by rw [C4 e] at hb0;exact e hb0
 have hr0:¬(f< -7∨7<f∨s<1∨128<s):=fun e=>by rw [Cw hm0 e] at hb0;cases hb0
 have hy:blS t n f s=blM t n f s:=by rw [blS,if_neg (by omega)]
 refine Be [] (by kernel_rfl) (by kernel_rfl) (by kernel_rfl) (by decide)<|yp (Ae (s':= .d (.agg (Ms.c (blM t n f s)))) (Aa (Ad R R A1 R lb)) (by rw [hy];rfl))<|ym R R<|ChK.cons R (CStep.call R (Gc (Eg t n f s) (Fc hb0)) R)<|yp (Cd (A8 R R R) (R))<|ym R R<|?_
 refine yp (Ae (s':= .d (.agg (Ms.c (blM t n f s)))) (Aa (Ad R R A1 R lb)) (by rw [hy];rfl))<|yp (Ae (s':= .d (.agg (Me.c t))) (Aa (Ad R R A7 R lb)) (by kernel_rfl))<|ym R R<|ym R R<|ym R R<|ChK.cons R (CStep.call R (Di _ _ _ _ (by omega) (by omega) (by omega)) R)<|ChK.cons R (CStep.call R (Co (B9 _ _) R) R)<|?_
 refine yp (A4 R R (by conv=>lhs;whnf))<|?_
 refine ya R R<|?_
 refine ChK.nil ⟨by kernel_rfl, ?_⟩
 exact zt<|z1 R R (R)
 refine zk 14 R<|zq R R R<|zn<|Av (by kernel_rfl) R<|zi<|zs<|zs<|?_
 have hb:blE t n f s=(mlE t n):=by first|exact Cw (by omega) (by omega)|(by_cases hmm:mlE t n≠0;(· exact C4 hmm);(· rw [F0 hmm (by omega)];omega))
 refine Af (by kernel_rfl)<|XL.call1 R R (Dz) R<|zp (Cs R R)<|zm R R<|zm R R<|zm R R<|zp (Cm (As R R R) (fun e=>e (by rw [hb])))<|zq R R R<|zn<|Av (by kernel_rfl) R<|zi<|zs<|zr<|zm R R<|?_
 refine zp (As R R R)<|zn<|?_
 refine zd R (fun c67=> ?_) (fun c67=> ?_)
 refine zs<|?_
 have hz:blS t n f s=Ms.z:=by rw [blS,if_pos (by assumption)]
 refine Af (by kernel_rfl)<|zp (Ae (s':= .d (.agg (Ms.c Ms.z))) (Aa (Ad R R A1 R lb)) (by rw [hz];rfl))<|?_
 refine zp (Cb (.agg (Ms.c Ms.z)) (Ae (s':= .d (.agg [dI 0,dI 0,dI 0,dI 0,dI 0,dI 0,dI 0,dI 0,dI 0,dI 0,dI 0,dI 0,dB false,dI 0,dI 0,dI 0,dI 0,dI 0,dI 0, .v (.string ⟨#[]⟩), .v (.slice none 0 0), .v (.slice none 0 0)])) (Aa (Ao (r:= [.d (dI 0), .d (dI 0), .d (dI 0), .d (dI 0), .d (dI 0), .d (dI 0), .d (dI 0), .d (dI 0), .d (dI 0), .d (dI 0), .d (dI 0), .d (dI 0), .d (dB false), .d (dI 0), .d (dI 0), .d (dI 0), .d (dI 0), .d (dI 0), .d (dI 0), .d (.v (.string ⟨#[]⟩)), .d (.v (.slice none 0 0)), .d (.v (.slice none 0 0))]) R Cz Bn (by kernel_rfl))) (by kernel_rfl)) (.agg (.cons (.same R) (.cons (.same R) (.cons (.same R) (.cons (.same R) (.cons (.same R) (.cons (.same R) (.cons (.same R) (.cons (.same R) (.cons (.same R) (.cons (.same R) (.cons (.same R) (.cons (.same R) (.cons (.same R) (.cons (.same R) (.cons (.same R) (.cons (.same R) (.cons (.same R) (.cons (.same R) (.cons (.same R) (.cons (.same R) (.cons (.nil 3) (.cons (.nil 2) (.nil)))))))))))))))))))))))))<|?_
 exact XL.call1 R R (Co (B9 Ms.z Ms.z) R) R<|za R R<|zn<|zt<|z1 R R (R)
 refine zi<|zs<|?_
 have hb0:blE t n f s=0:=by omega
 have hm0:¬mlE t n≠0:=fun e=>by rw [C4 e] at hb0;exact e hb0
 have hr0:¬(f< -7∨7<f∨s<1∨128<s):=fun e=>by rw [Cw hm0 e] at hb0;cases hb0
 have hy:blS t n f s=blM t n f s:=by rw [blS,if_neg (by omega)]
 refine Be [] (by kernel_rfl) (by kernel_rfl) (by kernel_rfl) (by decide)<|yp (Ae (s':= .d (.agg (Ms.c (blM t n f s)))) (Aa (Ad R R A1 R lb)) (by rw [hy];rfl))<|ym R R<|ChK.cons R (CStep.call R (Gc (Eg t n f s) (Fc hb0)) R)<|yp (Cd (A8 R R R) (R))<|ym R R<|?_
 refine yp (Ae (s':= .d (.agg (Ms.c (blM t n f s)))) (Aa (Ad R R A1 R lb)) (by rw [hy];rfl))<|yp (Ae (s':= .d (.agg (Me.c t))) (Aa (Ad R R A7 R lb)) (by kernel_rfl))<|ym R R<|ym R R<|ym R R<|ChK.cons R (CStep.call R (Di _ _ _ _ (by omega) (by omega) (by omega)) R)<|ChK.cons R (CStep.call R (Co (B9 _ _) R) R)<|?_
 refine yp (A4 R R (by conv=>lhs;whnf))<|?_
 refine ya R R<|?_
 refine ChK.nil ⟨by kernel_rfl, ?_⟩
 exact zt<|z1 R R (R)
theorem Aiy (t:Me) (n f s:Int) (h:12<s∧s≤128):XC Tryz.prog 12 [.agg (Me.c t), .agg [dI n,dI f,dI s]] (fun r=>r=dB true):=by
 refine Aj Nw Tryz.func12 R R lb<|zr<|XL.step R (Aq 2 (l:= [.d (dI t.count), .d (dI t.unit), .d (dI t.g0), .d (dI t.g1), .d (dI t.g2), .d (dI t.g3), .d (dI t.g4), .d (dI t.g5)]) R R (by kernel_rfl))<|XL.step R (Aq 3 (l:= [.d (dI n), .d (dI f), .d (dI s)]) R R (by kernel_rfl))<|za R R<|zn<|zs<|Be [] (by kernel_rfl) (by kernel_rfl) (by kernel_rfl) (by decide)<|?_
 refine yp (Gk (k:=0) R R R Tryz.underlying97 Dv (by omega))<|yp (Ab R R Ai R R)<|yp (Gk (k:=1) R R R Tryz.underlying97 Dv (by omega))<|yp (Ab R R Ai R R)<|yp (Gk (k:=2) R R R Tryz.underlying97 Dv (by omega))<|yp (Ab R R Ai R R)<|ya R R<|ya R R<|ya R R<|?_
 refine ChK.nil ⟨by kernel_rfl, ?_⟩
 refine zs<|zr<|zm R R<|zp (Cd (A5 R R R) (by omega))<|zm R R<|zm R R<|zp (Cd (Jy R R R) (by omega))<|zq R R R<|zn<|Au (by kernel_rfl) R<|Af (by kernel_rfl)<|zm R R<|zp (El R R R (by omega) (by omega))<|za R R<|?_
 refine znr<|zp (Ae (s':= .d (.agg (Me.c t))) (Aa (Ad R R A7 R lb)) (by kernel_rfl))<|zm R R<|zm R R<|zm R R<|XL.call1 R R (Ta _ _ _ _) R<|zm R R<|zp (An R R R)<|zp (An R R R)<|?_
 refine XL.step R (Al 8 (l:= [.d (dI 0), .d (dI 0), .d (dI 0), .d (dI 0), .d (dI 0), .d (dI 0), .d (dI 0), .d (dI 0), .d (dI 0), .d (dI 0), .d (dI 0), .d (dI 0), .d (dB false), .d (dI 0), .d (dI 0), .d (dI 0), .d (dI 0), .d (dI 0), .d (dI 0), .d (.v (.string ⟨#[]⟩)), .d (.v (.slice none 0 0)), .d (.v (.slice none 0 0))]) R Bn (by kernel_rfl))<|?_
 refine XL.step R (Ag (l':= [.d (dI (blS t n f (s % 12)).h.site), .d (dI (blS t n f (s % 12)).h.num), .d (dI (blS t n f (s % 12)).h.m.count), .d (dI (blS t n f (s % 12)).h.m.unit), .d (dI (blS t n f (s % 12)).h.m.g0), .d (dI (blS t n f (s % 12)).h.m.g1), .d (dI (blS t n f (s % 12)).h.m.g2), .d (dI (blS t n f (s % 12)).h.m.g3), .d (dI (blS t n f (s % 12)).h.m.g4), .d (dI (blS t n f (s % 12)).h.m.g5), .d (dI (blS t n f (s % 12)).h.len), .d (dI (blS t n f (s % 12)).h.fifths), .d (dB (blS t n f (s % 12)).h.start), .d (dI (blS t n f (s % 12)).h.fin), .d (dI (blS t n f (s % 12)).h.ends), .d (dI (blS t n f (s % 12)).h.jump), .d (dI (blS t n f (s % 12)).h.labels), .d (dI (blS t n f (s % 12)).h.swing), .d (dI (blS t n f (s % 12)).h.brk), .d (.v (.string ⟨(blS t n f (s % 12)).h.reh.toArray⟩)), .d (.sl 3 ((blS t n f (s % 12)).tempi.map Tm.c)), .d (.sl 2 ((blS t n f (s % 12)).cells.map Ce.c))]) R R R R Ed R lb (by kernel_rfl))<|?_
 refine za R R<|znr<|zp (Ae (s':= .d (.agg (Me.c t))) (Aa (Ad R R A7 R lb)) (by kernel_rfl))<|zm R R<|?_
 refine zp (Ae (s':= .d (.agg [dI 0,dI 0,dI t.count,dI t.unit,dI t.g0,dI t.g1,dI t.g2,dI t.g3,dI t.g4,dI t.g5,dI n,dI 0,dB false,dI 0,dI 0,dI 0,dI 0,dI 0,dI 0, .v (.string ⟨#[]⟩), .v (.slice none 0 0), .v (.slice none 0 0)])) (Aa (Ao (r:= [.d (dI 0), .d (dI 0), .d (dI t.count), .d (dI t.unit), .d (dI t.g0), .d (dI t.g1), .d (dI t.g2), .d (dI t.g3), .d (dI t.g4), .d (dI t.g5), .d (dI n), .d (dI 0), .d (dB false), .d (dI 0), .d (dI 0), .d (dI 0), .d (dI 0), .d (dI 0), .d (dI 0), .d (.v (.string ⟨#[]⟩)), .d (.v (.slice none 0 0)), .d (.v (.slice none 0 0))]) R Cz Bn (by kernel_rfl))) (by kernel_rfl))<|?_
 refine XL.call1 R R (Ym t n) R<|zm R R<|zp (An R R R)<|zp (An R R R)<|za R R<|za R R<|zn<|zs<|zr<|zm R R<|zp (A8 R R R)<|zm R R<|?_
 refine XL.dec 43 R (fun g43=> ?_) (fun g43=> ?_)
 refine zm R R<|zp (Ar R R R)<|zm R R<|?_
 refine XL.dec 46 R (fun g46=> ?_) (fun g46=> ?_)
 refine zk 2 R<|zq R R R<|zm R R<|zk 2 R<|zq R R R<|zm R R<|zk 2 R<|zq R R R<|zq R R R<|zn<|Au (by kernel_rfl) R<|Af (by kernel_rfl)<|za R R<|zn<|?_
 refine zs<|zs<|?_
 have hb:blE t n f (s % 12)=2:=by first|exact Cw (by omega) (by omega)|(by_cases hmm:mlE t n≠0;(· exact C4 hmm);(· rw [F0 hmm (by omega)];omega))
 refine Af (by kernel_rfl)<|XL.call1 R R (Dz) R<|zp (Cs R R)<|zm R R<|zm R R<|zm R R<|zp (Cm (As R R R) (fun e=>e (by rw [hb])))<|zq R R R<|zn<|Av (by kernel_rfl) R<|zi<|zs<|zr<|zm R R<|?_
 refine zp (As R R R)<|zn<|?_
 refine zd R (fun c67=> ?_) (fun c67=> ?_)
 refine zs<|?_
 have hz:blS t n f (s % 12)=Ms.z:=by rw [blS,if_pos (by assumption)]
 refine Af (by kernel_rfl)<|zp (Ae (s':= .d (.agg (Ms.c Ms.z))) (Aa (Ad R R A1 R lb)) (by rw [hz];rfl))<|?_
 refine zp (Cb (.agg (Ms.c Ms.z)) (Ae (s':= .d (.agg [dI 0,dI 0,dI 0,dI 0,dI 0,dI 0,dI 0,dI 0,dI 0,dI 0,dI 0,dI 0,dB false,dI 0,dI 0,dI 0,dI 0,dI 0,dI 0, .v (.string ⟨#[]⟩), .v (.slice none 0 0), .v (.slice none 0 0)])) (Aa (Ao (r:= [.d (dI 0), .d (dI 0), .d (dI 0), .d (dI 0), .d (dI 0), .d (dI 0), .d (dI 0), .d (dI 0), .d (dI 0), .d (dI 0), .d (dI 0), .d (dI 0), .d (dB false), .d (dI 0), .d (dI 0), .d (dI 0), .d (dI 0), .d (dI 0), .d (dI 0), .d (.v (.string ⟨#[]⟩)), .d (.v (.slice none 0 0)), .d (.v (.slice none 0 0))]) R Cz Bn (by kernel_rfl))) (by kernel_rfl)) (.agg (.cons (.same R) (.cons (.same R) (.cons (.same R) (.cons (.same R) (.cons (.same R) (.cons (.same R) (.cons (.same R) (.cons (.same R) (.cons (.same R) (.cons (.same R) (.cons (.same R) (.cons (.same R) (.cons (.same R) (.cons (.same R) (.cons (.same R) (.cons (.same R) (.cons (.same R) (.cons (.same R) (.cons (.same R) (.cons (.same R) (.cons (.nil 3) (.cons (.nil 2) (.nil)))))))))))))))))))))))))<|?_
 exact XL.call1 R R (Co (B9 Ms.z Ms.z) R) R<|za R R<|zn<|zt<|z1 R R (R)
 refine zi<|zs<|?_
 have hb0:blE t n f (s % 12)=0:=by omega
 have hm0:¬mlE t n≠0:=fun e=>by rw [C4 e] at hb0;exact e hb0
 have hr0:¬(f< -7∨7<f∨(s % 12)<1∨128<(s % 12)):=fun e=>by rw [Cw hm0 e] at hb0;cases hb0
 have hy:blS t n f (s % 12)=blM t n f (s % 12):=by rw [blS,if_neg (by omega)]
 refine Be [] (by kernel_rfl) (by kernel_rfl) (by kernel_rfl) (by decide)<|yp (Ae (s':= .d (.agg (Ms.c (blM t n f (s % 12))))) (Aa (Ad R R A1 R lb)) (by rw [hy];rfl))<|ym R R<|ChK.cons R (CStep.call R (Gc (Eg t n f (s % 12)) (Fc hb0)) R)<|yp (Cd (A8 R R R) (R))<|ym R R<|?_
 refine yp (Ae (s':= .d (.agg (Ms.c (blM t n f (s % 12))))) (Aa (Ad R R A1 R lb)) (by rw [hy];rfl))<|yp (Ae (s':= .d (.agg (Me.c t))) (Aa (Ad R R A7 R lb)) (by kernel_rfl))<|ym R R<|ym R R<|ym R R<|ChK.cons R (CStep.call R (Di _ _ _ _ (by omega) (by omega) (by omega)) R)<|ChK.cons R (CStep.call R (Co (B9 _ _) R) R)<|?_
 refine yp (A4 R R (by conv=>lhs;whnf))<|?_
 refine ya R R<|?_
 refine ChK.nil ⟨by kernel_rfl, ?_⟩
 exact zt<|z1 R R (R)
 refine zm R R<|zp (A5 R R R)<|zq R R R<|zm R R<|?_
 refine XL.dec 50 R (fun g50=> ?_) (fun g50=> ?_)
 refine zk 2 R<|zq R R R<|zm R R<|zk 2 R<|zq R R R<|zq R R R<|zn<|Au (by kernel_rfl) R<|Af (by kernel_rfl)<|za R R<|zn<|zs<|zs<|?_
 have hb:blE t n f (s % 12)=2:=by first|exact Cw (by omega) (by omega)|(by_cases hmm:mlE t n≠0;(· exact C4 hmm);(· rw [F0 hmm (by omega)];omega))
 refine Af (by kernel_rfl)<|XL.call1 R R (Dz) R<|zp (Cs R R)<|zm R R<|zm R R<|zm R R<|zp (Cm (As R R R) (fun e=>e (by rw [hb])))<|zq R R R<|zn<|Av (by kernel_rfl) R<|zi<|zs<|zr<|zm R R<|?_
 refine zp (As R R R)<|zn<|?_
 refine zd R (fun c67=> ?_) (fun c67=> ?_)
 refine zs<|?_
 have hz:blS t n f (s % 12)=Ms.z:=by rw [blS,if_pos (by assumption)]
 refine Af (by kernel_rfl)<|zp (Ae (s':= .d (.agg (Ms.c Ms.z))) (Aa (Ad R R A1 R lb)) (by rw [hz];rfl))<|?_
 refine zp (Cb (.agg (Ms.c Ms.z)) (Ae (s':= .d (.agg [dI 0,dI 0,dI 0,dI 0,dI 0,dI 0,dI 0,dI 0,dI 0,dI 0,dI 0,dI 0,dB false,dI 0,dI 0,dI 0,dI 0,dI 0,dI 0, .v (.string ⟨#[]⟩), .v (.slice none 0 0), .v (.slice none 0 0)])) (Aa (Ao (r:= [.d (dI 0), .d (dI 0), .d (dI 0), .d (dI 0), .d (dI 0), .d (dI 0), .d (dI 0), .d (dI 0), .d (dI 0), .d (dI 0), .d (dI 0), .d (dI 0), .d (dB false), .d (dI 0), .d (dI 0), .d (dI 0), .d (dI 0), .d (dI 0), .d (dI 0), .d (.v (.string ⟨#[]⟩)), .d (.v (.slice none 0 0)), .d (.v (.slice none 0 0))]) R Cz Bn (by kernel_rfl))) (by kernel_rfl)) (.agg (.cons (.same R) (.cons (.same R) (.cons (.same R) (.cons (.same R) (.cons (.same R) (.cons (.same R) (.cons (.same R) (.cons (.same R) (.cons (.same R) (.cons (.same R) (.cons (.same R) (.cons (.same R) (.cons (.same R) (.cons (.same R) (.cons (.same R) (.cons (.same R) (.cons (.same R) (.cons (.same R) (.cons (.same R) (.cons (.same R) (.cons (.nil 3) (.cons (.nil 2) (.nil)))))))))))))))))))))))))<|?_
 exact XL.call1 R R (Co (B9 Ms.z Ms.z) R) R<|za R R<|zn<|zt<|z1 R R (R)
 refine zi<|zs<|?_
 have hb0:blE t n f (s % 12)=0:=by omega
 have hm0:¬mlE t n≠0:=fun e=>by rw [C4 e] at hb0;exact e hb0
 have hr0:¬(f< -7∨7<f∨(s % 12)<1∨128<(s % 12)):=fun e=>by rw [Cw hm0 e] at hb0;cases hb0
 have hy:blS t n f (s % 12)=blM t n f (s % 12):=by rw [blS,if_neg (by omega)]
 refine Be [] (by kernel_rfl) (by kernel_rfl) (by kernel_rfl) (by decide)<|yp (Ae (s':= .d (.agg (Ms.c (blM t n f (s % 12))))) (Aa (Ad R R A1 R lb)) (by rw [hy];rfl))<|ym R R<|ChK.cons R (CStep.call R (Gc (Eg t n f (s % 12)) (Fc hb0)) R)<|yp (Cd (A8 R R R) (R))<|ym R R<|?_
 refine yp (Ae (s':= .d (.agg (Ms.c (blM t n f (s % 12))))) (Aa (Ad R R A1 R lb)) (by rw [hy];rfl))<|yp (Ae (s':= .d (.agg (Me.c t))) (Aa (Ad R R A7 R lb)) (by kernel_rfl))<|ym R R<|ym R R<|ym R R<|ChK.cons R (CStep.call R (Di _ _ _ _ (by omega) (by omega) (by omega)) R)<|ChK.cons R (CStep.call R (Co (B9 _ _) R) R)<|?_
 refine yp (A4 R R (by conv=>lhs;whnf))<|?_
 refine ya R R<|?_
 refine ChK.nil ⟨by kernel_rfl, ?_⟩
 exact zt<|z1 R R (R)
 refine zm R R<|zp (Ar R R R)<|zq R R R<|zm R R<|?_
 refine XL.dec 54 R (fun g54=> ?_) (fun g54=> ?_)
 refine zk 2 R<|zq R R R<|zq R R R<|zn<|Au (by kernel_rfl) R<|Af (by kernel_rfl)<|za R R<|zn<|zs<|zs<|?_
 have hb:blE t n f (s % 12)=2:=by first|exact Cw (by omega) (by omega)|(by_cases hmm:mlE t n≠0;(· exact C4 hmm);(· rw [F0 hmm (by omega)];omega))
 refine Af (by kernel_rfl)<|XL.call1 R R (Dz) R<|zp (Cs R R)<|zm R R<|zm R R<|zm R R<|zp (Cm (As R R R) (fun e=>e (by rw [hb])))<|zq R R R<|zn<|Av (by kernel_rfl) R<|zi<|zs<|zr<|zm R R<|?_
 refine zp (As R R R)<|zn<|?_
 refine zd R (fun c67=> ?_) (fun c67=> ?_)
 refine zs<|?_
 have hz:blS t n f (s % 12)=Ms.z:=by rw [blS,if_pos (by assumption)]
 refine Af (by kernel_rfl)<|zp (Ae (s':= .d (.agg (Ms.c Ms.z))) (Aa (Ad R R A1 R lb)) (by rw [hz];rfl))<|?_
 refine zp (Cb (.agg (Ms.c Ms.z)) (Ae (s':= .d (.agg [dI 0,dI 0,dI 0,dI 0,dI 0,dI 0,dI 0,dI 0,dI 0,dI 0,dI 0,dI 0,dB false,dI 0,dI 0,dI 0,dI 0,dI 0,dI 0, .v (.string ⟨#[]⟩), .v (.slice none 0 0), .v (.slice none 0 0)])) (Aa (Ao (r:= [.d (dI 0), .d (dI 0), .d (dI 0), .d (dI 0), .d (dI 0), .d (dI 0), .d (dI 0), .d (dI 0), .d (dI 0), .d (dI 0), .d (dI 0), .d (dI 0), .d (dB false), .d (dI 0), .d (dI 0), .d (dI 0), .d (dI 0), .d (dI 0), .d (dI 0), .d (.v (.string ⟨#[]⟩)), .d (.v (.slice none 0 0)), .d (.v (.slice none 0 0))]) R Cz Bn (by kernel_rfl))) (by kernel_rfl)) (.agg (.cons (.same R) (.cons (.same R) (.cons (.same R) (.cons (.same R) (.cons (.same R) (.cons (.same R) (.cons (.same R) (.cons (.same R) (.cons (.same R) (.cons (.same R) (.cons (.same R) (.cons (.same R) (.cons (.same R) (.cons (.same R) (.cons (.same R) (.cons (.same R) (.cons (.same R) (.cons (.same R) (.cons (.same R) (.cons (.same R) (.cons (.nil 3) (.cons (.nil 2) (.nil)))))))))))))))))))))))))<|?_
 exact XL.call1 R R (Co (B9 Ms.z Ms.z) R) R<|za R R<|zn<|zt<|z1 R R (R)
 refine zi<|zs<|?_
 have hb0:blE t n f (s % 12)=0:=by omega
 have hm0:¬mlE t n≠0:=fun e=>by rw [C4 e] at hb0;exact e hb0
 have hr0:¬(f< -7∨7<f∨(s % 12)<1∨128<(s % 12)):=fun e=>by rw [Cw hm0 e] at hb0;cases hb0
 have hy:blS t n f (s % 12)=blM t n f (s % 12):=by rw [blS,if_neg (by omega)]
 refine Be [] (by kernel_rfl) (by kernel_rfl) (by kernel_rfl) (by decide)<|yp (Ae (s':= .d (.agg (Ms.c (blM t n f (s % 12))))) (Aa (Ad R R A1 R lb)) (by rw [hy];rfl))<|ym R R<|ChK.cons R (CStep.call R (Gc (Eg t n f (s % 12)) (Fc hb0)) R)<|yp (Cd (A8 R R R) (R))<|ym R R<|?_
 refine yp (Ae (s':= .d (.agg (Ms.c (blM t n f (s % 12))))) (Aa (Ad R R A1 R lb)) (by rw [hy];rfl))<|yp (Ae (s':= .d (.agg (Me.c t))) (Aa (Ad R R A7 R lb)) (by kernel_rfl))<|ym R R<|ym R R<|ym R R<|ChK.cons R (CStep.call R (Di _ _ _ _ (by omega) (by omega) (by omega)) R)<|ChK.cons R (CStep.call R (Co (B9 _ _) R) R)<|?_
 refine yp (A4 R R (by conv=>lhs;whnf))<|?_
 refine ya R R<|?_
 refine ChK.nil ⟨by kernel_rfl, ?_⟩
 exact zt<|z1 R R (R)
 refine zm R R<|zp (A5 R R R)<|zq R R R<|zq R R R<|zn<|?_
 refine zd R (fun c58=> ?_) (fun c58=> ?_)
 refine Af (by kernel_rfl)<|za R R<|zn<|zs<|zs<|?_
 have hb:blE t n f (s % 12)=2:=by first|exact Cw (by omega) (by omega)|(by_cases hmm:mlE t n≠0;(· exact C4 hmm);(· rw [F0 hmm (by omega)];omega))
 refine Af (by kernel_rfl)<|XL.call1 R R (Dz) R<|zp (Cs R R)<|zm R R<|zm R R<|zm R R<|zp (Cm (As R R R) (fun e=>e (by rw [hb])))<|zq R R R<|zn<|Av (by kernel_rfl) R<|zi<|zs<|zr<|zm R R<|?_
 refine zp (As R R R)<|zn<|?_
 refine zd R (fun c67=> ?_) (fun c67=> ?_)
 refine zs<|?_
 have hz:blS t n f (s % 12)=Ms.z:=by rw [blS,if_pos (by assumption)]
 refine Af (by kernel_rfl)<|zp (Ae (s':= .d (.agg (Ms.c Ms.z))) (Aa (Ad R R A1 R lb)) (by rw [hz];rfl))<|?_
 refine zp (Cb (.agg (Ms.c Ms.z)) (Ae (s':= .d (.agg [dI 0,dI 0,dI 0,dI 0,dI 0,dI 0,dI 0,dI 0,dI 0,dI 0,dI 0,dI 0,dB false,dI 0,dI 0,dI 0,dI 0,dI 0,dI 0, .v (.string ⟨#[]⟩), .v (.slice none 0 0), .v (.slice none 0 0)])) (Aa (Ao (r:= [.d (dI 0), .d (dI 0), .d (dI 0), .d (dI 0), .d (dI 0), .d (dI 0), .d (dI 0), .d (dI 0), .d (dI 0), .d (dI 0), .d (dI 0), .d (dI 0), .d (dB false), .d (dI 0), .d (dI 0), .d (dI 0), .d (dI 0), .d (dI 0), .d (dI 0), .d (.v (.string ⟨#[]⟩)), .d (.v (.slice none 0 0)), .d (.v (.slice none 0 0))]) R Cz Bn (by kernel_rfl))) (by kernel_rfl)) (.agg (.cons (.same R) (.cons (.same R) (.cons (.same R) (.cons (.same R) (.cons (.same R) (.cons (.same R) (.cons (.same R) (.cons (.same R) (.cons (.same R) (.cons (.same R) (.cons (.same R) (.cons (.same R) (.cons (.same R) (.cons (.same R) (.cons (.same R) (.cons (.same R) (.cons (.same R) (.cons (.same R) (.cons (.same R) (.cons (.same R) (.cons (.nil 3) (.cons (.nil 2) (.nil)))))))))))))))))))))))))<|?_
 exact XL.call1 R R (Co (B9 Ms.z Ms.z) R) R<|za R R<|zn<|zt<|z1 R R (R)
 refine zi<|zs<|?_
 have hb0:blE t n f (s % 12)=0:=by omega
 have hm0:¬mlE t n≠0:=fun e=>by rw [C4 e] at hb0;exact e hb0
 have hr0:¬(f< -7∨7<f∨(s % 12)<1∨128<(s % 12)):=fun e=>by rw [Cw hm0 e] at hb0;cases hb0
 have hy:blS t n f (s % 12)=blM t n f (s % 12):=by rw [blS,if_neg (by omega)]
 refine Be [] (by kernel_rfl) (by kernel_rfl) (by kernel_rfl) (by decide)<|yp (Ae (s':= .d (.agg (Ms.c (blM t n f (s % 12))))) (Aa (Ad R R A1 R lb)) (by rw [hy];rfl))<|ym R R<|ChK.cons R (CStep.call R (Gc (Eg t n f (s % 12)) (Fc hb0)) R)<|yp (Cd (A8 R R R) (R))<|ym R R<|?_
 refine yp (Ae (s':= .d (.agg (Ms.c (blM t n f (s % 12))))) (Aa (Ad R R A1 R lb)) (by rw [hy];rfl))<|yp (Ae (s':= .d (.agg (Me.c t))) (Aa (Ad R R A7 R lb)) (by kernel_rfl))<|ym R R<|ym R R<|ym R R<|ChK.cons R (CStep.call R (Di _ _ _ _ (by omega) (by omega) (by omega)) R)<|ChK.cons R (CStep.call R (Co (B9 _ _) R) R)<|?_
 refine yp (A4 R R (by conv=>lhs;whnf))<|?_
 refine ya R R<|?_
 refine ChK.nil ⟨by kernel_rfl, ?_⟩
 exact zt<|z1 R R (R)
 refine zi<|zs<|zs<|?_
 have hb:blE t n f (s % 12)=(mlE t n):=by first|exact Cw (by omega) (by omega)|(by_cases hmm:mlE t n≠0;(· exact C4 hmm);(· rw [F0 hmm (by omega)];omega))
 refine Af (by kernel_rfl)<|XL.call1 R R (Dz) R<|zp (Cs R R)<|zm R R<|zm R R<|zm R R<|zp (Cm (As R R R) (fun e=>e (by rw [hb])))<|zq R R R<|zn<|Av (by kernel_rfl) R<|zi<|zs<|zr<|zm R R<|?_
 refine zp (As R R R)<|zn<|?_
 refine zd R (fun c67=> ?_) (fun c67=> ?_)
 refine zs<|?_
 have hz:blS t n f (s % 12)=Ms.z:=by rw [blS,if_pos (by assumption)]
 refine Af (by kernel_rfl)<|zp (Ae (s':= .d (.agg (Ms.c Ms.z))) (Aa (Ad R R A1 R lb)) (by rw [hz];rfl))<|?_
 refine zp (Cb (.agg (Ms.c Ms.z)) (Ae (s':= .d (.agg [dI 0,dI 0,dI 0,dI 0,dI 0,dI 0,dI 0,dI 0,dI 0,dI 0,dI 0,dI 0,dB false,dI 0,dI 0,dI 0,dI 0,dI 0,dI 0, .v (.string ⟨#[]⟩), .v (.slice none 0 0), .v (.slice none 0 0)])) (Aa (Ao (r:= [.d (dI 0), .d (dI 0), .d (dI 0), .d (dI 0), .d (dI 0), .d (dI 0), .d (dI 0), .d (dI 0), .d (dI 0), .d (dI 0), .d (dI 0), .d (dI 0), .d (dB false), .d (dI 0), .d (dI 0), .d (dI 0), .d (dI 0), .d (dI 0), .d (dI 0), .d (.v (.string ⟨#[]⟩)), .d (.v (.slice none 0 0)), .d (.v (.slice none 0 0))]) R Cz Bn (by kernel_rfl))) (by kernel_rfl)) (.agg (.cons (.same R) (.cons (.same R) (.cons (.same R) (.cons (.same R) (.cons (.same R) (.cons (.same R) (.cons (.same R) (.cons (.same R) (.cons (.same R) (.cons (.same R) (.cons (.same R) (.cons (.same R) (.cons (.same R) (.cons (.same R) (.cons (.same R) (.cons (.same R) (.cons (.same R) (.cons (.same R) (.cons (.same R) (.cons (.same R) (.cons (.nil 3) (.cons (.nil 2) (.nil)))))))))))))))))))))))))<|?_
 exact XL.call1 R R (Co (B9 Ms.z Ms.z) R) R<|za R R<|zn<|zt<|z1 R R (R)
 refine zi<|zs<|?_
 have hb0:blE t n f (s % 12)=0:=by omega
 have hm0:¬mlE t n≠0:=fun e=>by rw [C4 e] at hb0;exact e hb0
 have hr0:¬(f< -7∨7<f∨(s % 12)<1∨128<(s % 12)):=fun e=>by rw [Cw hm0 e] at hb0;cases hb0
 have hy:blS t n f (s % 12)=blM t n f (s % 12):=by rw [blS,if_neg (by omega)]
 refine Be [] (by kernel_rfl) (by kernel_rfl) (by kernel_rfl) (by decide)<|yp (Ae (s':= .d (.agg (Ms.c (blM t n f (s % 12))))) (Aa (Ad R R A1 R lb)) (by rw [hy];rfl))<|ym R R<|ChK.cons R (CStep.call R (Gc (Eg t n f (s % 12)) (Fc hb0)) R)<|yp (Cd (A8 R R R) (R))<|ym R R<|?_
 refine yp (Ae (s':= .d (.agg (Ms.c (blM t n f (s % 12))))) (Aa (Ad R R A1 R lb)) (by rw [hy];rfl))<|yp (Ae (s':= .d (.agg (Me.c t))) (Aa (Ad R R A7 R lb)) (by kernel_rfl))<|ym R R<|ym R R<|ym R R<|ChK.cons R (CStep.call R (Di _ _ _ _ (by omega) (by omega) (by omega)) R)<|ChK.cons R (CStep.call R (Co (B9 _ _) R) R)<|?_
 refine yp (A4 R R (by conv=>lhs;whnf))<|?_
 refine ya R R<|?_
 refine ChK.nil ⟨by kernel_rfl, ?_⟩
 exact zt<|z1 R R (R)
 refine zk 14 R<|zq R R R<|zn<|Av (by kernel_rfl) R<|zi<|zs<|zs<|?_
 have hb:blE t n f (s % 12)=(mlE t n):=by first|exact Cw (by omega) (by omega)|(by_cases hmm:mlE t n≠0;(· exact C4 hmm);(· rw [F0 hmm (by omega)];omega))
 refine Af (by kernel_rfl)<|XL.call1 R R (Dz) R<|zp (Cs R R)<|zm R R<|zm R R<|zm R R<|zp (Cm (As R R R) (fun e=>e (by rw [hb])))<|zq R R R<|zn<|Av (by kernel_rfl) R<|zi<|zs<|zr<|zm R R<|?_
 refine zp (As R R R)<|zn<|?_
 refine zd R (fun c67=> ?_) (fun c67=> ?_)
 refine zs<|?_
 have hz:blS t n f (s % 12)=Ms.z:=by rw [blS,if_pos (by assumption)]
 refine Af (by kernel_rfl)<|zp (Ae (s':= .d (.agg (Ms.c Ms.z))) (Aa (Ad R R A1 R lb)) (by rw [hz];rfl))<|?_
 refine zp (Cb (.agg (Ms.c Ms.z)) (Ae (s':= .d (.agg [dI 0,dI 0,dI 0,dI 0,dI 0,dI 0,dI 0,dI 0,dI 0,dI 0,dI 0,dI 0,dB false,dI 0,dI 0,dI 0,dI 0,dI 0,dI 0, .v (.string ⟨#[]⟩), .v (.slice none 0 0), .v (.slice none 0 0)])) (Aa (Ao (r:= [.d (dI 0), .d (dI 0), .d (dI 0), .d (dI 0), .d (dI 0), .d (dI 0), .d (dI 0), .d (dI 0), .d (dI 0), .d (dI 0), .d (dI 0), .d (dI 0), .d (dB false), .d (dI 0), .d (dI 0), .d (dI 0), .d (dI 0), .d (dI 0), .d (dI 0), .d (.v (.string ⟨#[]⟩)), .d (.v (.slice none 0 0)), .d (.v (.slice none 0 0))]) R Cz Bn (by kernel_rfl))) (by kernel_rfl)) (.agg (.cons (.same R) (.cons (.same R) (.cons (.same R) (.cons (.same R) (.cons (.same R) (.cons (.same R) (.cons (.same R) (.cons (.same R) (.cons (.same R) (.cons (.same R) (.cons (.same R) (.cons (.same R) (.cons (.same R) (.cons (.same R) (.cons (.same R) (.cons (.same R) (.cons (.same R) (.cons (.same R) (.cons (.same R) (.cons (.same R) (.cons (.nil 3) (.cons (.nil 2) (.nil)))))))))))))))))))))))))<|?_
 exact XL.call1 R R (Co (B9 Ms.z Ms.z) R) R<|za R R<|zn<|zt<|z1 R R (R)
 refine zi<|zs<|?_
 have hb0:blE t n f (s % 12)=0:=by omega
 have hm0:¬mlE t n≠0:=fun e=>by rw [C4 e] at hb0;exact e hb0
 have hr0:¬(f< -7∨7<f∨(s % 12)<1∨128<(s % 12)):=fun e=>by rw [Cw hm0 e] at hb0;cases hb0
 have hy:blS t n f (s % 12)=blM t n f (s % 12):=by rw [blS,if_neg (by omega)]
 refine Be [] (by kernel_rfl) (by kernel_rfl) (by kernel_rfl) (by decide)<|yp (Ae (s':= .d (.agg (Ms.c (blM t n f (s % 12))))) (Aa (Ad R R A1 R lb)) (by rw [hy];rfl))<|ym R R<|ChK.cons R (CStep.call R (Gc (Eg t n f (s % 12)) (Fc hb0)) R)<|yp (Cd (A8 R R R) (R))<|ym R R<|?_
 refine yp (Ae (s':= .d (.agg (Ms.c (blM t n f (s % 12))))) (Aa (Ad R R A1 R lb)) (by rw [hy];rfl))<|yp (Ae (s':= .d (.agg (Me.c t))) (Aa (Ad R R A7 R lb)) (by kernel_rfl))<|ym R R<|ym R R<|ym R R<|ChK.cons R (CStep.call R (Di _ _ _ _ (by omega) (by omega) (by omega)) R)<|ChK.cons R (CStep.call R (Co (B9 _ _) R) R)<|?_
 refine yp (A4 R R (by conv=>lhs;whnf))<|?_
 refine ya R R<|?_
 refine ChK.nil ⟨by kernel_rfl, ?_⟩
 exact zt<|z1 R R (R)
theorem Yp (t:Me) (n f s:Int):XC Tryz.prog 12 [.agg (Me.c t), .agg [dI n,dI f,dI s]] (fun r=>r=dB true):=by
 by_cases h:s≤12
 ·exact Ai0 t n f s h
 ·by_cases h2:128<s
  ·exact Aiz t n f s h2
  ·exact Aiy t n f s ⟨by omega,by omega⟩
end Go.Proofs.YtaafemnkamfgnaaGreat
