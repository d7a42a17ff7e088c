/- Part 7 of what the statements need: lemmas and walks. -/
import Derived.Shelf.Sort.Plain
import Derived.Shelf.Bits.Mul64
import Derived.Ground.Names2Prog
import Derived.Shelf.Slices.CompactI
import Derived.Shelf.Slices.In.SortNone
import Derived.Test.YtaafemnkamfgnaaGreatProg
import Derived.Test.YtaafemnkamfgnaaGreatQu6
set_option linter.unusedVariables false
set_option linter.unusedSimpArgs false
set_option linter.unusedSectionVars false
set_option maxRecDepth 20000
set_option maxHeartbeats 8000000
namespace Go.Proofs
open Go.Shelf
def Tryz.lays189_ren:Go.Shelf.Ren:=⟨fun|189=>58|125=>98|257=>97|128=>126|129=>127|294=>117|295=>118|296=>119|297=>120|298=>121|299=>122|216=>123|300=>124|301=>125|328=>146|329=>147|330=>148|331=>149|332=>150|215=>151|343=>171|n=>n,fun|28=>45|3=>3|46=>150|0=>0|51=>186|53=>188|4=>4|183=>178|182=>177|131=>183|5=>5|9=>9|218=>207|222=>211|228=>231|229=>232|n=>n,fun|n=>n⟩
theorem Tryz.lays189 : Go.Proofs.Lays.n189 Tryz.prog Tryz.lays189_ren := {
 mixed:=by kernel_rfl
 f125:=Tryz.func98.trans (congrArg some (by kernel_rfl))
 f128:=Tryz.func126.trans (congrArg some (by kernel_rfl))
 f129:=Tryz.func127.trans (congrArg some (by kernel_rfl))
 f189:=Tryz.func58.trans (congrArg some (by kernel_rfl))
 f215:=Tryz.func151.trans (congrArg some (by kernel_rfl))
 f216:=Tryz.func123.trans (congrArg some (by kernel_rfl))
 f257:=Tryz.func97.trans (congrArg some (by kernel_rfl))
 f294:=Tryz.func117.trans (congrArg some (by kernel_rfl))
 f295:=Tryz.func118.trans (congrArg some (by kernel_rfl))
 f296:=Tryz.func119.trans (congrArg some (by kernel_rfl))
 f297:=Tryz.func120.trans (congrArg some (by kernel_rfl))
 f298:=Tryz.func121.trans (congrArg some (by kernel_rfl))
 f299:=Tryz.func122.trans (congrArg some (by kernel_rfl))
 f300:=Tryz.func124.trans (congrArg some (by kernel_rfl))
 f301:=Tryz.func125.trans (congrArg some (by kernel_rfl))
 f328:=Tryz.func146.trans (congrArg some (by kernel_rfl))
 f329:=Tryz.func147.trans (congrArg some (by kernel_rfl))
 f330:=Tryz.func148.trans (congrArg some (by kernel_rfl))
 f331:=Tryz.func149.trans (congrArg some (by kernel_rfl))
 f332:=Tryz.func150.trans (congrArg some (by kernel_rfl))
 f343:=Tryz.func171.trans (congrArg some (by kernel_rfl))
 t0:=Tryz.underlying0
 a0:=Tryz.isAgg0
 z0:=Tryz.sizeOf0
 v0:=Tryz.zeroValue0
 t3:=Tryz.underlying3
 a3:=Tryz.isAgg3
 z3:=Tryz.sizeOf3
 v3:=Tryz.zeroValue3
 t4:=Tryz.underlying4
 a4:=Tryz.isAgg4
 z4:=Tryz.sizeOf4
 v4:=Tryz.zeroValue4
 t5:=Tryz.underlying5
 a5:=Tryz.isAgg5
 z5:=Tryz.sizeOf5
 v5:=Tryz.zeroValue5
 t9:=Tryz.underlying9
 a9:=Tryz.isAgg9
 z9:=Tryz.sizeOf9
 v9:=Tryz.zeroValue9
 t28:=Tryz.underlying45
 a28:=Tryz.isAgg45
 z28:=Tryz.sizeOf45
 v28:=Tryz.zeroValue45
 t46:=Tryz.underlying150
 a46:=Tryz.isAgg150
 z46:=Tryz.sizeOf150
 v46:=Tryz.zeroValue150
 t51:=Tryz.underlying186
 a51:=Tryz.isAgg186
 z51:=Tryz.sizeOf186
 v51:=Tryz.zeroValue186
 t53:=Tryz.underlying188
 a53:=Tryz.isAgg188
 z53:=Tryz.sizeOf188
 v53:=Tryz.zeroValue188
 t131:=Tryz.underlying183
 a131:=Tryz.isAgg183
 z131:=Tryz.sizeOf183
 v131:=Tryz.zeroValue183
 t182:=Tryz.underlying177
 a182:=Tryz.isAgg177
 z182:=Tryz.sizeOf177
 v182:=Tryz.zeroValue177
 t183:=Tryz.underlying178
 a183:=Tryz.isAgg178
 z183:=Tryz.sizeOf178
 v183:=Tryz.zeroValue178
 t218:=Tryz.underlying207
 a218:=Tryz.isAgg207
 z218:=Tryz.sizeOf207
 v218:=Tryz.zeroValue207
 t222:=Tryz.underlying211
 a222:=Tryz.isAgg211
 z222:=Tryz.sizeOf211
 v222:=Tryz.zeroValue211
 t228:=Tryz.underlying231
 a228:=Tryz.isAgg231
 z228:=Tryz.sizeOf231
 v228:=Tryz.zeroValue231
 t229:=Tryz.underlying232
 a229:=Tryz.isAgg232
 z229:=Tryz.sizeOf232
 v229 := Tryz.zeroValue232 }
open Go.Sort Go.RowKit in
theorem Tryz.slices_Sort_int (blk off cap:Nat) (zs:List Int) (w:World) (hH:Holds (Value.int .i64) w blk off zs.toArray) (hblk:blk<w.heap.size) (hsz:zs.length<4611686018427387904):
  Calls Tryz.prog 58 #[.slice (some ⟨blk,off,none⟩) zs.length cap] w fun e w'=>
   e= .returned (.tuple #[])∧∃n os,w'=grow (putRow (Value.int .i64) (Sort.ahead w n) blk off (zs.mergeSort fun x y=>decide (x≤y)).toArray) os:=Any.slices_Sort_int Tryz.lays189 blk off cap zs w hH hblk hsz
def Tryz.lays264_ren:Go.Shelf.Ren:=⟨fun|264=>212|n=>n,fun|53=>188|46=>150|n=>n,fun|n=>n⟩
def Tryz.lays212_ren:Go.Shelf.Ren:=⟨fun|212=>207|263=>211|264=>212|n=>n,fun|46=>150|51=>186|146=>267|53=>188|148=>269|n=>n,fun|n=>n⟩
theorem Tryz.lays212 : Go.Proofs.Lays.n212 Tryz.prog Tryz.lays212_ren := {
 mixed:=by kernel_rfl
 f212:=Tryz.func207.trans (congrArg some (by kernel_rfl))
 f263:=Tryz.func211.trans (congrArg some (by kernel_rfl))
 f264:=Tryz.func212.trans (congrArg some (by kernel_rfl))
 t46:=Tryz.underlying150
 a46:=Tryz.isAgg150
 z46:=Tryz.sizeOf150
 v46:=Tryz.zeroValue150
 t51:=Tryz.underlying186
 a51:=Tryz.isAgg186
 z51:=Tryz.sizeOf186
 v51:=Tryz.zeroValue186
 t53:=Tryz.underlying188
 a53:=Tryz.isAgg188
 z53:=Tryz.sizeOf188
 v53:=Tryz.zeroValue188
 t146:=Tryz.underlying267
 a146:=Tryz.isAgg267
 z146:=Tryz.sizeOf267
 v146:=Tryz.zeroValue267
 t148:=Tryz.underlying269
 a148:=Tryz.isAgg269
 z148:=Tryz.sizeOf269
 v148 := Tryz.zeroValue269 }
open Go.RowKit Go.Lib in
theorem Tryz.bits_Mul (x y:Nat) (hx:x<18446744073709551616) (hy:y<18446744073709551616) (w:World):
  Calls Tryz.prog 207 #[.int .u64 x, .int .u64 y] w fun e w'=>e= .returned (.tuple #[.int .u64 ((x*y / 18446744073709551616:Nat):Int), .int .u64 ((x*y % 18446744073709551616:Nat):Int)])∧w'=w:=Any.bits_Mul Tryz.lays212 x y hx hy w
def Tryz.laysNm220_ren:Go.Shelf.Ren:=⟨fun|20=>59|n=>n,fun|22=>45|3=>3|4=>4|0=>0|n=>n,fun|n=>n⟩
theorem Tryz.laysNm220 : Go.Proofs.Lays2.n20 Tryz.prog Tryz.laysNm220_ren := {
 mixed:=by kernel_rfl
 f20:=Tryz.func59.trans (congrArg some (by kernel_rfl))
 t0:=Tryz.underlying0
 a0:=Tryz.isAgg0
 z0:=Tryz.sizeOf0
 v0:=Tryz.zeroValue0
 t3:=Tryz.underlying3
 a3:=Tryz.isAgg3
 z3:=Tryz.sizeOf3
 v3:=Tryz.zeroValue3
 t4:=Tryz.underlying4
 a4:=Tryz.isAgg4
 z4:=Tryz.sizeOf4
 v4:=Tryz.zeroValue4
 t22:=Tryz.underlying45
 a22:=Tryz.isAgg45
 z22:=Tryz.sizeOf45
 v22:=Tryz.zeroValue45
 i3 := by kernel_rfl }
open Go.RowKit Go.Lib Go.Sort in
theorem Tryz.slices_Compact_int (blk off cap:Nat) (zs:List Int) (w:World) (hH:Holds (Value.int .i64) w blk off zs.toArray) (hsz:zs.length≤9223372036854775807) (hcap:zs.length≤cap):
  Calls Tryz.prog 59 #[.slice (some ⟨blk,off,none⟩) zs.length cap] w fun e w'=>e= .returned (.slice (some ⟨blk,off,none⟩) (Lib.compact zs).length cap)∧∃q,w'=putRow (Value.int .i64) (Sort.ahead w q) blk off (Lib.compact zs++List.replicate (zs.length - (Lib.compact zs).length) 0).toArray:=Any.slices_Compact_int Tryz.laysNm220 blk off cap zs w hH hsz hcap
open Go.RowKit Go.Lib Go.Sort in
theorem Tryz.slices_Compact_int_empty (a:Option Addr) (cap:Nat) (w:World):
  Calls Tryz.prog 59 #[.slice a 0 cap] w fun e w'=>e= .returned (.slice a 0 cap)∧w'=w:=Any.slices_Compact_int_empty Tryz.laysNm220 a cap w
open Go.RowKit Go.Sort in
theorem Tryz.slices_Sort_int_none (p:Option Addr) (cap:Nat) (w:World):
  Calls Tryz.prog 58 #[.slice p 0 cap] w fun e w'=>e= .returned (.tuple #[])∧w'=w:=Any.slices_Sort_int_none Tryz.lays189 p cap w
end Go.Proofs
namespace Go.Proofs.YtaafemnkamfgnaaGreat
open Go.RowKit
theorem Ap0 (n:Nat) (h:n≤64):XC Tryz.prog 207 [.v (.int .u64 1), .v (.int .u64 n)] (fun r=>r= .tup [.v (.int .u64 0), .v (.int .u64 n)]):=by
 refine Atf Aaw [.int .u64 1, .int .u64 n] (u:= .tuple #[.int .u64 0, .int .u64 n]) (fun w=> ?_) (fun H=> .tup _ _ R fun i x d hx hd=> ?_)
 ·have:=Tryz.bits_Mul 1 n (by omega) (by omega) w
  have e1:(1*n / 18446744073709551616:Nat)=0:=by omega
  have e2:(1*n % 18446744073709551616:Nat)=n:=by omega
  rw [e1,e2] at this
  exact this
 ·match i with
  |0=>cases hx;cases hd;exact .v _
  |1=>cases hx;cases hd;exact .v _
  |i+2=>cases hd
def rep (v:Int) (n k:Nat):List Int:=List.replicate k v++List.replicate (n - k) 0
theorem Afo {v:Int} {n k:Nat} (h:k≤n):(rep v n k).length=n:=by rw [rep,List.length_append,List.length_replicate,List.length_replicate];omega
theorem Pe {v:Int} {n k:Nat} (h:k≤n):((rep v n k).map iv).length=n:=by rw [List.length_map,Afo h]
theorem Ro (v:Int) (n k:Nat):(rep v n k).map iv=List.replicate k (iv v)++List.replicate (n - k) (iv 0):=by rw [rep,List.map_append,List.map_replicate,List.map_replicate]
theorem Ajb {v:Int} {n:Nat} (h:1≤n):sets (List.replicate n [dI 0]) 0 ((Cg [v]).take 1)=(rep v n 1).map iv:=by
 rw [Ro,J1 _ _ _ (by simp [Cg];omega)]
 simp [Cg,iv]
theorem Al8 {v:Int} {n k:Nat} (h:k≤n):sets ((rep v n k).map iv) k (((((rep v n k).map iv).take k).drop 0).take (min k (n - k)))=(rep v n (k+min k (n - k))).map iv:=by
 have h1:((rep v n k).map iv).take k=List.replicate k (iv v):=by rw [Ro,List.take_append_of_le_length (by rw [List.length_replicate];exact Nat.le_refl _),List.take_replicate,Nat.min_self]
 have h2:min (min k (n - k)) k=min k (n - k):=by omega
 rw [h1,List.drop_zero,List.take_replicate,h2,J1 _ _ _ (by rw [Pe h,List.length_replicate];omega),h1,Ro,Ro,List.length_replicate,List.drop_append,List.drop_eq_nil_of_le (by rw [List.length_replicate];omega),List.nil_append,List.length_replicate,List.drop_replicate,List.replicate_append_replicate]
 congr 2
 omega
theorem Apq (v:Int) (n:Nat):rep v n n=List.replicate n v:=by rw [rep,Nat.sub_self,List.replicate_zero,List.append_nil]
theorem Ade (v:Int) (n:Nat) (h:1≤n) (h2:n≤64):XC Tryz.prog 202 [.sl 1 (Cg [v]), .v (.int .i64 (n:Nat))] (fun r=>r= .sl 1 (Cg (List.replicate n v))):=by
 refine An Aa1 Tryz.func202 R R lb<|zr<|za R R<|zn<|zs<|zr<|zm R R<|zp (Au R R R)<|zn<|?_
 refine zd R (fun c10=> ?_) (fun c10=> ?_)
 exfalso;omega
 refine zi<|zr<|zm R R<|XL.len R R R Tryz.underlying45 fun hl14=>zp (Aod R R Tryz.underlying150 R (by simp) (by simp))<|zm R R<|zp (Aod R R Tryz.underlying150 R (by omega) (by omega))<|XL.call1 R R (Ap0 n (by omega)) R<|zm R R<|zp (A0 R R R)<|zp (A0 R R R)<|za R R<|za R R<|zn<|?_
 refine zs<|zr<|zm R R<|zp (Hc (Bb R R R) (by omega))<|zm R R<|zm R R<|zp (Hc (Bb R R R) (by omega))<|zq R R R<|zn<|A8 (by kernel_rfl) R<|zi<|zr<|zm R R<|zp (Atl R R Tryz.underlying3 R (by omega) (by omega))<|?_
 refine XL.step R (Ow 30 (z:=(.int .i64 0)) (zs:= [dI 0]) (sz:=1) (bytes:=8) R R R Tryz.underlying45 (by kernel_rfl) (by kernel_rfl) (by kernel_rfl) (by decide) (by decide) (by omega) (by unfold maxLen;omega) (by omega))<|zp (Aw R (by conv=>lhs;whnf))<|?_
 refine znr<|zp (As R (by conv=>lhs;whnf))<|?_
 refine zm R R<|XL.step R (Apj (l2:=(rep v n 1).map iv) (m:=1) R (.own R) (Src.sl (by omega)) Dt (by simp [Cg];omega) (Ajb h))<|za R R<|zn<|zs<|Ah<|?_
 refine Az (α:=Nat) (fun k=>1≤k∧k≤n) (fun k=>mkF [(4, .d (.v (.slice none 0 0))),(7, .own 30),(8, .d (dI k))]) (fun k=>mkH [(30, .row 3 1 ((rep v n k).map iv))]) (fun k=>n - k) (1) (⟨Nat.le_refl _,h⟩) ?_ ?_ ?_
 exact fz ⟨sr,sr,sr,trivial⟩
 exact gz ⟨R,trivial⟩
 intro k hk0
 have hrl:(rep v n k).length=n:=Afo (by omega)
 refine zs<|zr<|zm R R<|zp (As R (by conv=>lhs;whnf))<|?_
 refine zp (Bz R R R Tryz.underlying45)<|zp (Au R R R)<|zn<|?_
 refine zd R (fun c37=> ?_) (fun c37=> ?_)
 refine zi<|Ah<|Jl 7 8 [] id 30 (Qq 30 (.row 3 1 ((rep v n (k+min k (n - k))).map iv))) (by kernel_rfl) (by kernel_rfl) (by kernel_rfl) (by kernel_rfl) R (by decide)<|ChMK.fr R R (CStep.pure (As R (by conv=>lhs;whnf))) (CStep.pure (As R (by conv=>lhs;whnf))) (by exact rfl)<|?_
 refine ChMK.bf R (CStep.pure (As R (by conv=>lhs;whnf))) (by conv=>lhs;whnf)<|?_
 refine ChMK.bf R (CStep.pure (As R (by conv=>lhs;whnf))) (by conv=>lhs;whnf)<|?_
 refine ChMK.bf R (CStep.pure (Ll R R R Dt (Bd.at R) Bd.no (by rw [Pe (by omega)];omega) (Nat.le_refl _))) (by conv=>lhs;whnf)<|?_
 refine ChMK.bf R (CStep.pure (As R (by conv=>lhs;whnf))) (by conv=>lhs;whnf)<|?_
 refine ChMK.bf R (CStep.pure (As R (by conv=>lhs;whnf))) (by conv=>lhs;whnf)<|?_
 refine ChMK.bf R (CStep.pure (Ll R R R Dt Bd.no (Bd.at R) (Nat.zero_le _) (by rw [Pe (by omega)];omega))) (by conv=>lhs;whnf)<|?_
 refine ChMK.mu R (Ash (l2:=(rep v n (k+min k (n - k))).map iv) (m:=min k (n - k)) R (.sub R) (Src.part (.sub R)) Dt (by rw [List.length_drop,List.length_take,Pe (by omega)];omega) (Al8 (by omega)))<|?_
 refine ChMK.nil ⟨⟨by kernel_rfl,by kernel_rfl,by kernel_rfl⟩, ?_⟩
 refine zp (Al R R R (by omega) (by omega))<|za R R<|zn<|Ry<|?_
 exact Am (k+min k (n - k)) (by omega) (by omega) (fz ⟨sr,sr, .same (sI (by omega)),trivial⟩) (gz ⟨R,trivial⟩)
 have hk:k=n:=by omega
 subst hk
 refine At<|zr<|zp (As R (by conv=>lhs;whnf))<|?_
 refine zp (Aw R (by conv=>lhs;whnf))<|?_
 exact zn<|zt<|Cd (i:=30) R<|z1 R R (rSl (Apq v k))
theorem Pd (v n:Int) (h:1≤n) (h2:n≤64):XC Tryz.prog 202 [.sl 1 (Cg [v]),dI n] (fun r=>r= .sl 1 (Cg (List.replicate n.toNat v))):=by
 obtain ⟨k,rfl⟩:=Int.eq_ofNat_of_zero_le (show 0≤n by omega)
 have:=Ade v k (by omega) (by omega)
 rwa [Int.toNat_natCast]
theorem U5 (g:Int):XC Tryz.prog 201 [.v (.int .i64 g)] (fun r=>r=dB (decide (g=0))):=by
 exact An Aa2 Tryz.func201 R R lb<|zr<|za R R<|znr<|zm R R<|zp (Bi R R R)<|za R R<|zn<|zt<|z1 R R (R)
def nz (g:Int):Bool:=decide (g≠0)
theorem Ato {g:Int} (h:g=0):nz g=false:=by rw [nz,decide_eq_false];exact fun k=>k h
theorem Ajq {g:Int} (h:¬g=0):nz g=true:=by rw [nz,decide_eq_true h]
def Me.groups (m:Me):List Int:=if ¬m.flat then m.gs.filter nz else if 8≤m.unit∧m.count % 3=0 then List.replicate (m.count / 3).toNat 3 else List.replicate m.count.toNat 1
theorem Aon {m:Me} (h:¬m.flat):m.groups=m.gs.filter nz:=by rw [Me.groups,if_pos h]
theorem Aty {m:Me} (h:¬ ¬m.flat) (h2:8≤m.unit∧m.count % 3=0):m.groups=List.replicate (m.count / 3).toNat 3:=by rw [Me.groups,if_neg h,if_pos h2]
theorem Aom {m:Me} (h:¬ ¬m.flat) (h2:¬(8≤m.unit∧m.count % 3=0)):m.groups=List.replicate m.count.toNat 1:=by rw [Me.groups,if_neg h,if_neg h2]
theorem Aks {l:List Int} {k:Nat} {g:Int} (h:l[k]? =some g) (hg:g=0):(l.take (k+1)).filter nz=(l.take k).filter nz:=by rw [B3 h,List.filter_append,List.filter_cons_of_neg (by rw [Ato hg];exact Bool.false_ne_true),List.filter_nil,List.append_nil]
theorem Af4 {l:List Int} {k:Nat} {g:Int} (h:l[k]? =some g) (hg:¬g=0):(l.take (k+1)).filter nz=(l.take k).filter nz++ [g]:=by rw [B3 h,List.filter_append,List.filter_cons_of_pos (Ajq hg),List.filter_nil]
structure DelI (xs:List Int) (j i:Nat) (W:List Int):Prop where
 lt:i<j
 le:j≤xs.length
 len:W.length=xs.length
 take:W.take i=(xs.take j).filter nz
 drop:W.drop j=xs.drop j
theorem DelI.get {xs W:List Int} {j i:Nat} (h:DelI xs j i W) {g:Int} (hg:xs[j]? =some g):W[j]? =some g:=by
 have:=congrArg (fun l=>l[0]?) h.drop
 simpa [List.getElem?_drop,hg] using this
theorem DelI.keep {xs W:List Int} {j i:Nat} (h:DelI xs j i W) {g:Int} (hg:xs[j]? =some g) (h0:g=0):DelI xs (j+1) i W:=by
 have:=(List.getElem?_eq_some_iff.1 hg).1
 have:=h.lt
 refine ⟨by omega,by omega,h.len,by rw [Aks hg h0];exact h.take, ?_⟩
 rw [←List.drop_drop,h.drop,List.drop_drop]
theorem DelI.put {xs W:List Int} {j i:Nat} (h:DelI xs j i W) {g:Int} (hg:xs[j]? =some g) (h0:¬g=0):DelI xs (j+1) (i+1) (W.set i g):=by
 have h1:=(List.getElem?_eq_some_iff.1 hg).1
 have h2:=h.lt
 have h3:=h.len
 refine ⟨by omega,by omega,by rw [List.length_set];exact h3, ?_, ?_⟩
 ·rw [Af4 hg h0, ←h.take,List.take_succ_eq_append_getElem (by rw [List.length_set];omega),List.getElem_set_self,List.take_set_of_le (Nat.le_refl _)]
 ·rw [List.drop_set_of_lt (by omega), ←List.drop_drop,h.drop,List.drop_drop]
theorem DelI.start {xs:List Int} {k:Nat} {g:Int} (hg:xs[k]? =some g) (h0:g=0) (hk:(xs.take k).filter nz=xs.take k):DelI xs (k+1) k xs:=
 ⟨by omega,by have:=(List.getElem?_eq_some_iff.1 hg).1;omega,rfl,by rw [Aks hg h0,hk],rfl⟩
theorem DelI.fin {xs W:List Int} {j i:Nat} (h:DelI xs j i W) (hj:j=xs.length):W.take i=xs.filter nz:=by rw [h.take,hj,List.take_length]
theorem DelI.clr {xs W:List Int} {j i:Nat} (h:DelI xs j i W):sets (W.map iv) i (List.replicate ((W.map iv).length - i) [dI 0])=(W.take i++List.replicate (W.length - i) 0).map iv:=by
 have:=h.lt;have:=h.le;have:=h.len
 rw [J1 _ _ _ (by rw [List.length_replicate,List.length_map];omega),List.drop_eq_nil_of_le (by rw [List.length_replicate,List.length_map];omega),List.append_nil,List.map_append,List.map_take,List.map_replicate,List.length_map]
 rfl
theorem DelI.cut {xs W:List Int} {j i:Nat} (h:DelI xs j i W):(((W.take i++List.replicate (W.length - i) 0).map iv).take i)=(W.take i).map iv:=by
 have:=h.lt;have:=h.le;have:=h.len
 rw [←List.map_take,List.take_append_of_le_length (by rw [List.length_take];omega),List.take_take,Nat.min_self]
theorem U1 (m:Me) (h:Mok m):XC Tryz.prog 180 [.agg (Me.c m)] (fun r=>r= .sl 1 (Cg m.groups)):=by
 have hc:=h.count
 have hu:=h.unit
 have hx6:([m.g0,m.g1,m.g2,m.g3,m.g4,m.g5]:List Int).length=6:=rfl
 refine An Abl Tryz.func180 R R lb<|zr<|XL.step R (Ap 1 (l:= [.d (dI m.count), .d (dI m.unit), .d (dI m.g0), .d (dI m.g1), .d (dI m.g2), .d (dI m.g3), .d (dI m.g4), .d (dI m.g5)]) R R (by kernel_rfl))<|za R R<|zn<|zs<|zr<|zp (Aa R R Ps)<|?_
 refine zp (Ae (s':= .d (.agg [dI m.g0,dI m.g1,dI m.g2,dI m.g3,dI m.g4,dI m.g5])) (Ac (Ad R R Rj R lb)) (by kernel_rfl))<|zp (Ae (s':= .d (.agg [dI 0,dI 0,dI 0,dI 0,dI 0,dI 0])) (Ac (Pi R Tryz.underlying24 Ey Ae7 R)) (by kernel_rfl))<|zp (Amc R R R)<|zn<|?_
 refine zd R (fun c6=> ?_) (fun c6=> ?_)
 refine zr<|zp (Aa R R Ps)<|XL.freezeP 1 (ds:=Me.c m) R (by kernel_rfl) (by kernel_rfl)<|zp (Adi (r:=Cg [m.g0,m.g1,m.g2,m.g3,m.g4,m.g5]) R R Tryz.underlying24 Ey (by unfold maxLen;omega) lb R)<|XL.callS R R ((Aap _ (by omega)).lab 7001) R<|?_
 refine XL.inl 900001 [(1, .d (.pt (Me.c m))),(2, .d (.v (.slice none 0 0)))] R R .d Aa4 Tryz.func199 R R lb (by simp only [List.forall_mem_cons];exact ⟨⟨Nat.le_of_ble_eq_true rfl,rfl⟩,⟨⟨Nat.le_of_ble_eq_true rfl,rfl⟩,fun p hp=>(by cases hp)⟩⟩) fun u1=>zr<|za R R<|znr<|zp (As R (by conv=>lhs;whnf))<|?_
 refine zm R R<|XL.inl 900002 [(0, .own 7001),(1, .d (.fn 201 [] [])),(4, .d (.v (.slice none 0 0)))] R R .d Re Tryz.func132 R R lb (by simp only [List.forall_mem_cons];exact ⟨⟨Nat.le_of_ble_eq_true rfl,rfl⟩,⟨⟨Nat.le_of_ble_eq_true rfl,rfl⟩,⟨⟨Nat.le_of_ble_eq_true rfl,rfl⟩,fun p hp=>(by cases hp)⟩⟩⟩) fun u2=>zr<|za R R<|zn<|zs<|zr<|zp (As R (by conv=>lhs;whnf))<|?_
 refine zp (Bz R R R Tryz.underlying45)<|zm R R<|zn<|Ah<|?_
 refine Az (α:=Nat) (fun k=>k≤6∧([m.g0,m.g1,m.g2,m.g3,m.g4,m.g5].take k).filter nz= [m.g0,m.g1,m.g2,m.g3,m.g4,m.g5].take k) (fun k=>mkF [(0, .own 7001),(1, .d (.fn 201 [] [])),(7, .d (dI ([m.g0,m.g1,m.g2,m.g3,m.g4,m.g5]).length)),(8, .d (dI k))]) (fun k=>mkH [(7001, .row 3 1 ((([m.g0,m.g1,m.g2,m.g3,m.g4,m.g5])).map iv)),(900001, .ghost u1 [(1, .d (.pt (Me.c m))),(2, .d (.v (.slice none 0 0)))]),(900002, .ghost u2 [(0, .own 7001),(1, .d (.fn 201 [] [])),(4, .d (.v (.slice none 0 0)))])]) (fun k=>6 - k) (0) (⟨Nat.zero_le _,R⟩) ?_ ?_ ?_
 exact fz ⟨sr,sr,sr,sr,trivial⟩
 exact gz ⟨R,R,R,trivial⟩
 intro k hk0x
 obtain ⟨hk,hfk⟩:=hk0x
 refine zr<|zp (Au R R R)<|zn<|zs<|?_
 refine zd R (fun c9x=> ?_) (fun c9x=> ?_)
 obtain ⟨y,hy⟩:∃y, [m.g0,m.g1,m.g2,m.g3,m.g4,m.g5][k]? =some y:=Ar (by omega)
 refine zi<|zs<|Ah<|zr<|zm R R<|za R R<|znr<|zm R R<|zp (As R (by conv=>lhs;whnf))<|?_
 refine zm R R<|zp (Ck R R R (R) R Dt (by omega))<|zp (I1 R R Ai R (C2 (hy)) R)<|XL.callv1 (ds:= [_]) R R R (U5 _) R<|zn<|?_
 refine zd R (fun c16x=> ?_) (fun c16x=> ?_)
 refine zr<|zm R R<|za R R<|zn<|zt<|?_
 refine (Dr (l:= [(0, .own 7001),(1, .d (.fn 201 [] [])),(4, .d (.v (.slice none 0 0)))]) (by kernel_rfl) (rs1 R (RV.tmp R R)) ?_).2
 refine za R R<|zn<|zs<|zr<|zm R R<|zp (Bi R R R)<|zn<|?_
 refine zd R (fun c12d=> ?_) (fun c12d=> ?_)
 exfalso;omega
 refine zi<|zs<|zr<|zm R R<|zp (Al R R R (by omega) (by omega))<|za R R<|zn<|Ah<|?_
 refine Az (α:=Nat × Nat × List Int) (fun p=>DelI [m.g0,m.g1,m.g2,m.g3,m.g4,m.g5] p.1 p.2.1 p.2.2) (fun p=>mkF [(0, .own 7001),(1, .d (.fn 201 [] [])),(4, .d (.v (.slice none 0 0))),(5, .d (dI p.2.1)),(6, .d (dI p.1))]) (fun p=>mkH [(7001, .row 3 1 (p.2.2.map iv)),(900001, .ghost u1 [(1, .d (.pt (Me.c m))),(2, .d (.v (.slice none 0 0)))])]) (fun p=>6 - p.1) ((k+1,k, [m.g0,m.g1,m.g2,m.g3,m.g4,m.g5])) (DelI.start hy c16x hfk) ?_ ?_ ?_
 exact fz ⟨sr,sr,sr,sr,sr,trivial⟩
 exact gz ⟨R,R,trivial⟩
 intro p hk0d
 have hD:=hk0d
 have hlt:=hD.lt
 have hle:=hD.le
 have hlen:=hD.len
 refine zs<|zr<|zm R R<|zp (As R (by conv=>lhs;whnf))<|?_
 refine zp (Bz R R R Tryz.underlying45)<|zp (Au R R R)<|zn<|?_
 refine zd R (fun c19d=> ?_) (fun c19d=> ?_)
 obtain ⟨z,hz⟩:∃z, [m.g0,m.g1,m.g2,m.g3,m.g4,m.g5][p.1]? =some z:=Ar (by omega)
 obtain ⟨w,hw⟩:∃w,p.2.2[p.2.1]? =some w:=Ar (by omega)
 refine zi<|zs<|Ah<|zr<|zp (As R (by conv=>lhs;whnf))<|?_
 refine zm R R<|zp (Ck R R R (R) R Dt (by have:=hD.len;omega))<|zp (I1 R R Ai R (C2 (hD.get hz)) R)<|za R R<|znr<|zm R R<|zm R R<|XL.callv1 (ds:= [_]) R R R (U5 _) R<|zp (En R R)<|zn<|?_
 refine zd R (fun c29d=> ?_) (fun c29d=> ?_)
 refine zr<|zp (As R (by conv=>lhs;whnf))<|?_
 refine zm R R<|zm R R<|zp (Ck R R R (R) R Dt (by have:=hD.lt;have:=hD.len;omega))<|XL.step R (D8 R R R (C2 hw) R R Ey R lb)<|zng<|zm R R<|zp (Al R R R (by omega) (by omega))<|za R R<|zn<|Ag (by kernel_rfl)<|zm R R<|zp (Al R R R (by omega) (by omega))<|za R R<|zn<|?_
 exact Am ((p.1+1,p.2.1+1,p.2.2.set p.2.1 z)) (hD.put hz c29d) (by show 6 - (p.1+1)<6 - p.1;omega) (fz ⟨sr,sr,sr,sr,sr,trivial⟩) (gz ⟨Od R R,R,trivial⟩)
 refine zi<|Ag (by kernel_rfl)<|zm R R<|zp (Al R R R (by omega) (by omega))<|za R R<|zn<|?_
 exact Am ((p.1+1,p.2.1,p.2.2)) (hD.keep hz (Decidable.not_not.1 c29d)) (by show 6 - (p.1+1)<6 - p.1;omega) (fz ⟨sr,sr,sr,sr,sr,trivial⟩) (gz ⟨R,R,trivial⟩)
 have hfin:=hD.fin (by omega)
 refine At<|zr<|zp (As R (by conv=>lhs;whnf))<|?_
 refine zm R R<|zp (Ll R R R Dt (Bd.at R) Bd.no (by rw [List.length_map];have:=hD.lt;have:=hD.le;have:=hD.len;omega) (Nat.le_refl _))<|XL.step R (S9 (l2:=(p.2.2.take p.2.1++List.replicate (p.2.2.length - p.2.1) 0).map iv) (zs:= [dI 0]) R (.sub R) Tryz.underlying45 H0 (by kernel_rfl) (by kernel_rfl) (by decide) (by omega) (hD.clr))<|znr<|?_
 refine zp (As R (by conv=>lhs;whnf))<|?_
 refine zm R R<|XL.step R (Ox R R R Dt (.at R) (by rw [List.length_map,List.length_append,List.length_take,List.length_replicate];have:=hD.lt;have:=hD.le;have:=hD.len;omega))<|zp (Aw R (by conv=>lhs;whnf))<|?_
 refine zn<|zt<|?_
 refine (Dr (l:= [(1, .d (.pt (Me.c m))),(2, .d (.v (.slice none 0 0)))]) (by kernel_rfl) (Cs R (RVS.tmp R R)) ?_).2
 refine zp (Aw R (by conv=>lhs;whnf))<|?_
 exact zn<|zt<|Cd (i:=7001) R<|z1 R R (by rw [hD.cut];exact rSl (hfin.trans (Aon c6).symm))
 refine zi<|Ag (by kernel_rfl)<|zp (Al R R R (by omega) (by omega))<|zm R R<|zn<|?_
 exact Am (k+1) (⟨by omega,by rw [Af4 hy c16x,hfk, ←B3 hy]⟩) (by omega) (fz ⟨sr,sr,sr,sr,trivial⟩) (gz ⟨rfl,rfl,rfl,trivial⟩)
 have hfx: [m.g0,m.g1,m.g2,m.g3,m.g4,m.g5].filter nz= [m.g0,m.g1,m.g2,m.g3,m.g4,m.g5]:=by rw [show k= [m.g0,m.g1,m.g2,m.g3,m.g4,m.g5].length by omega,List.take_length] at hfk;exact hfk
 refine At<|zr<|za R R<|zn<|zt<|?_
 refine (Dr (l:= [(0, .own 7001),(1, .d (.fn 201 [] [])),(4, .d (.v (.slice none 0 0)))]) (by kernel_rfl) (rs1 R (RV.tmp R R)) ?_).2
 refine za R R<|zn<|zs<|zr<|zm R R<|zp (Ec (Bi R R R) (by decide))<|zn<|Av (by kernel_rfl) R<|zr<|zp (As R (by conv=>lhs;whnf))<|?_
 refine zp (Aw R (by conv=>lhs;whnf))<|?_
 refine zn<|zt<|?_
 refine (Dr (l:= [(1, .d (.pt (Me.c m))),(2, .d (.v (.slice none 0 0)))]) (by kernel_rfl) (Cs R (RVS.tmp R R)) ?_).2
 refine zp (Aw R (by conv=>lhs;whnf))<|?_
 exact zn<|zt<|Cd (i:=7001) R<|z1 R R (rSl (hfx.symm.trans (Aon c6).symm))
 refine zi<|zs<|zr<|zp (Aa R R K6)<|zp (Ab R R Ai R R)<|zp (Gg R R R)<|zm R R<|?_
 refine XL.dec 14 R (fun g14=> ?_) (fun g14=> ?_)
 refine zp (Aa R R Iv)<|zp (Ab R R Ai R R)<|zp (Fu R R R (by omega) (by omega))<|zp (Bi R R R)<|zq R R R<|zn<|?_
 refine zd R (fun c19=> ?_) (fun c19=> ?_)
 exact zr<|XL.step R (Hg (l:=Cg [3]) R Tryz.underlying45 Ey H0 (by kernel_rfl) R (by omega) (by omega))<|zp (Aa R R Iv)<|zp (Ab R R Ai R R)<|zp (Jj R R R (by omega) (by omega) (by omega))<|XL.call1 R R (Pd _ _ (by omega) (by omega)) R<|za R R<|zn<|zt<|z1 R R (rSl (Aty c6 (by omega)).symm)
 exact zi<|zr<|XL.step R (Hg (l:=Cg [1]) R Tryz.underlying45 Ey H0 (by kernel_rfl) R (by omega) (by omega))<|zp (Aa R R Iv)<|zp (Ab R R Ai R R)<|XL.call1 R R (Pd _ _ (by omega) (by omega)) R<|za R R<|zn<|zt<|z1 R R (rSl (Aom c6 (by omega)).symm)
 exact zk 4 R<|zq R R R<|zn<|A8 (by kernel_rfl) R<|zi<|zr<|XL.step R (Hg (l:=Cg [1]) R Tryz.underlying45 Ey H0 (by kernel_rfl) R (by omega) (by omega))<|zp (Aa R R Iv)<|zp (Ab R R Ai R R)<|XL.call1 R R (Pd _ _ (by omega) (by omega)) R<|za R R<|zn<|zt<|z1 R R (rSl (Aom c6 (by omega)).symm)
end Go.Proofs.YtaafemnkamfgnaaGreat
namespace Go.Proofs.YtaafemnkamfgnaaGreat
open Go.RowKit
structure Grs (l:List Int):Prop where
 pos:0<l.length
 len:l.length≤64
 bd:∀g∈l,0≤g∧g≤64
theorem Z5 {c:Int}:∀(l:List Int) (k:Nat) (s n:Int),gOk c (gGo k s n l)→∀g∈l,0≤g∧g≤64
 | [],_,_,_,_,g,hg=>by cases hg
 |x::r,k,s,n,h,g,hg=>by
  rw [gGo] at h
  split at h
  ·exact h.elim
  ·rename_i hx
   rcases List.mem_cons.1 hg with rfl|hg
   ·omega
   ·split at h
    ·exact Z5 r _ _ _ h g hg
    ·exact Z5 r _ _ _ h g hg
theorem Mok.groups {m:Me} (h:Mok m):Grs m.groups:=by
 have hc:=h.count
 unfold Me.groups
 by_cases hf:m.flat
 ·rw [if_neg (fun k=>k hf)]
  split
  ·rename_i h3
   have:(m.count / 3).toNat≤64∧0<(m.count / 3).toNat:=by omega
   exact ⟨by rw [List.length_replicate];omega,by rw [List.length_replicate];omega,fun g hg=>by rw [List.eq_of_mem_replicate hg];omega⟩
  ·exact ⟨by rw [List.length_replicate];omega,by rw [List.length_replicate];omega,fun g hg=>by rw [List.eq_of_mem_replicate hg];omega⟩
 ·rw [if_pos hf]
  refine ⟨?_,Nat.le_trans (List.length_filter_le _ _) (show (6:Nat)≤64 by decide),fun g hg=> ?_⟩
  ·refine List.length_pos_iff.2 fun e=>hf ?_
   have h0:∀g∈m.gs,g=0:=fun g hg=>Decidable.byContradiction fun k=>by
    have:=List.mem_filter.2 ⟨hg,Ajq k⟩
    rw [e] at this;cases this
   exact ⟨h0 _ (by simp [Me.gs]),h0 _ (by simp [Me.gs]),h0 _ (by simp [Me.gs]),h0 _ (by simp [Me.gs]),h0 _ (by simp [Me.gs]),h0 _ (by simp [Me.gs])⟩
  ·exact Z5 m.gs 0 0 0 (h.grp.elim (fun k=>absurd k hf) fun k=>k) g (List.mem_filter.1 hg).1
theorem Grs.tot {l:List Int} (h:Grs l) (k:Nat):0≤tot (l.take k)∧tot (l.take k)≤4096:=by
 have:=Nums.tot (l:=l.take k) ⟨Nat.le_trans (List.length_take_le' _ _) (Nat.le_trans h.len (by decide)),fun x hx=>by have:=h.bd x (List.mem_of_mem_take hx);omega⟩
 refine ⟨this.1, ?_⟩
 have h2 : ∀ l : List Int, (∀ g ∈ l, 0 ≤ g ∧ g ≤ 64) → Go.Proofs.YtaafemnkamfgnaaGreat.tot l ≤ (l.length : Int) * 64 := fun l => Ta (p := fun l => (∀ g ∈ l, 0 ≤ g ∧ g ≤ 64) → Go.Proofs.YtaafemnkamfgnaaGreat.tot l ≤ (l.length : Int) * 64) (fun _ => by simp [Go.Proofs.YtaafemnkamfgnaaGreat.tot]) (fun l x ih h => by
  have h1:=ih fun y hy=>h y (List.mem_append_left _ hy)
  have h2:=h x (List.mem_append_right _ (List.mem_singleton.2 rfl))
  rw [O9,List.length_append,List.length_singleton,Int.natCast_add,Int.add_mul]
  omega) l
 have:=h2 (l.take k) fun g hg=>h.bd g (List.mem_of_mem_take hg)
 have h3:(l.take k).length≤64:=Nat.le_trans (List.length_take_le' _ _) h.len
 omega
def Me.beats (m:Me):List Int:=(List.range m.groups.length).map fun k=>tot (m.groups.take k)*m.u
theorem Ald (m:Me):m.beats.length=m.groups.length:=by rw [Me.beats,List.length_map,List.length_range]
theorem Ale {m:Me} {k:Nat} (h:k<m.groups.length):m.beats[k]? =some (tot (m.groups.take k)*m.u):=by rw [Me.beats,List.getElem?_map,List.getElem?_range h];rfl
theorem Zl {a b:Int} (h1:0≤a) (h2:a≤4096) (h3:0≤b) (h4:b≤1935360):0≤a*b∧a*b≤7927234560:=
 ⟨Int.mul_nonneg h1 h3,by have:=Int.mul_le_mul h2 h4 h3 (by omega:(0:Int)≤4096);omega⟩
theorem Qo (m:Me) (h:Mok m):XC Tryz.prog 184 [.agg (Me.c m)] (fun r=>r= .sl 1 (Cg m.beats)):=by
 have hg:=h.groups
 have hu:=h.u
 have hbl:=Ald m
 refine An Abh Tryz.func184 R R lb<|zr<|XL.step R (Ap 1 (l:= [.d (dI m.count), .d (dI m.unit), .d (dI m.g0), .d (dI m.g1), .d (dI m.g2), .d (dI m.g3), .d (dI m.g4), .d (dI m.g5)]) R R (by kernel_rfl))<|za R R<|znr<|za R R<|znr<|za R R<|zn<|zs<|zr<|zp (Ae (s':= .d (.agg (Me.c m))) (Ac (Ad R R Bn R lb)) (by kernel_rfl))<|?_
 refine XL.call1 R R (U1 _ (by assumption)) R<|XL.len R R R Tryz.underlying45 fun hl9=>zm R R<|zn<|Ah<|Dx 900 3 3 1 R<|?_
 refine Az (α:=Nat) (fun k=>k≤m.groups.length) (fun k=>mkF [(1, .ptr 1 0 0),(2, .d (.v (.slice none 0 0))),(3, .own 900),(4, .d (dI (tot (m.groups.take k)*m.u))),(8, .d (.sl 1 (Cg m.groups))),(9, .d (dI m.groups.length)),(10, .d (dI k))]) (fun k=>mkH [(1, .box ((Me.c m).map S.d)),(900, .row 3 1 ((m.beats.take k).map iv))]) (fun k=>m.groups.length - k) (0) (Nat.zero_le _) ?_ ?_ ?_
 exact fz ⟨sr,sr,sr, .same (sI (by rw [List.take_zero];show 0=0*m.u;omega)),sr,sr,sr,trivial⟩
 exact gz ⟨R,R,trivial⟩
 intro k hk0
 refine zr<|zp (Au R R R)<|zn<|zs<|?_
 refine zd R (fun c11=> ?_) (fun c11=> ?_)
 have hk0a:k<m.groups.length:=by omega
 obtain ⟨x0,hx0⟩:=Ar hk0a
 have hx1:=hg.bd x0 (List.mem_of_getElem? hx0)
 have ht1:=hg.tot k
 have ht2:=hg.tot (k+1)
 have hb1:=Zl ht1.1 ht1.2 (by omega) hu.2
 have hb2:=Zl ht2.1 ht2.2 (by omega) hu.2
 have hb3:=Zl hx1.1 (by omega:x0≤4096) (by omega) hu.2
 have hst:tot (m.groups.take (k+1))*m.u=tot (m.groups.take k)*m.u+x0*m.u:=by rw [S8 hx0,Int.add_mul]
 have hgl:=hg.len
 refine zi<|zs<|Ah<|zr<|zp (Ao R R R Dt hx0)<|zp (Bg R R Ai)<|za R R<|zn<|Jl 3 11 [] (S.kill 900) 900 (Zr 900 (.row 3 1 (((m.beats.take k)++ [tot (m.groups.take k)*m.u]).map iv))) (by kernel_rfl) (by kernel_rfl) (by kernel_rfl) (by kernel_rfl) R (by decide)<|ChMK.bf R (CStep.pure (As R (by conv=>lhs;whnf))) (by conv=>lhs;whnf)<|?_
 refine ChMK.bf R (CStep.pure (As R (by conv=>lhs;whnf))) (by conv=>lhs;whnf)<|?_
 refine ChMK.bf R (CStep.slice (l:=Cg [(tot (m.groups.take k)*m.u)]) R Tryz.underlying45 Ey H0 (by kernel_rfl) R (by omega) (by omega)) (by conv=>lhs;whnf)<|?_
 refine ChMK.mu R (Tv (l2:=((m.beats.take k)++ [tot (m.groups.take k)*m.u]).map iv) R Q4 (.own R) (Src.sl (by omega)) (by rw [List.length_map,List.length_take];simp [Cg,maxLen];omega) (by rw [List.length_map,List.length_take];simp [Cg];omega) (by rw [List.map_append];rfl))<|?_
 refine ChMK.fr R R (CStep.pure (As R (by conv=>lhs;whnf))) (CStep.pure (As R (by conv=>lhs;whnf))) (by exact rfl)<|?_
 refine ChMK.fr R R (CStep.pure (As R (by conv=>lhs;whnf))) (CStep.pure (As R (by conv=>lhs;whnf))) (by exact rfl)<|?_
 refine ChMK.fr R R (CStep.pure (Ae (s':= .d (.agg (Me.c m))) (Ac (Ad R R Bn R lb)) (by kernel_rfl))) (CStep.pure (Ae (s':= .d (.agg (Me.c m))) (Ac (Ad R R Bn R lb)) (by kernel_rfl))) (by exact rfl)<|ChMK.af R (CStep.call R (In _ (by assumption)) R)<|ChMK.af R (CStep.pure (L9 R R R (by omega) (by omega)))<|?_
 refine ChMK.af R (CStep.pure (Al R R R (by omega) (by omega)))<|ChMK.af R (CStep.pure (Aw R (by conv=>lhs;whnf)))<|?_
 refine ChMK.nil ⟨⟨by kernel_rfl,by kernel_rfl,by kernel_rfl⟩, ?_⟩
 refine za R R<|zn<|Ag (by kernel_rfl)<|zp (Al R R R (by omega) (by omega))<|zm R R<|zn<|?_
 exact Am (k+1) (by omega) (by omega) (fz ⟨sr,sr,sr, .same (sI hst.symm),sr,sr,sr,trivial⟩) (gz ⟨R,Oe (B3 (Ale hk0a)).symm,trivial⟩)
 have hk0b:k=m.groups.length:=by omega
 have ht:m.beats.take k=m.beats:=by rw [hk0b, ←hbl,List.take_length]
 refine At<|zr<|zp (As R (by conv=>lhs;whnf))<|?_
 refine zp (Aw R (by conv=>lhs;whnf))<|?_
 exact zn<|zt<|Cd (i:=900) R<|z1 R R (rSl ht)
def Ip (t:Int):Nat→Int→Int→Int
 |0,_,_=>15
 |f+1,k,q=>if q % 2=0∧7560≤q / 2 then (if t % (q / 2)=0 then 3+k else Ip t f (k+1) (q / 2)) else 15
def Me.level (m:Me) (at_:Int):Int:=
 if at_ % m.len=0 then 0 else if (2*(at_ % m.len)=m.len∧(m.groups.length:Int) % 2=0)∧Jc m.groups=Jd m.groups then 1 else if at_ % m.len∈m.beats then 2 else if at_ % m.len % m.u=0 then 3 else Ip (at_ % m.len) 9 1 m.u
theorem Tw {t:Int} {f:Nat} {k q:Int} (h:q % 2=0∧7560≤q / 2) (h2:t % (q / 2)=0):Ip t (f+1) k q=3+k:=by rw [Ip,if_pos h,if_pos h2]
theorem Qt {t:Int} {f:Nat} {k q:Int} (h:q % 2=0∧7560≤q / 2) (h2:¬t % (q / 2)=0):Ip t (f+1) k q=Ip t f (k+1) (q / 2):=by rw [Ip,if_pos h,if_neg h2]
theorem K2 {t:Int} {f:Nat} {k q:Int} (h:¬(q % 2=0∧7560≤q / 2)):Ip t f k q=15:=by
 cases f with
 |zero=>rfl
 |succ f=>rw [Ip,if_neg h]
theorem Vr {f:Nat} {q:Int} (h:2*q≤7560*2 ^ f) (h2:7560≤q / 2):∃g,f=g+1∧2*(q / 2)≤7560*2 ^ g:=by
 cases f with
 |zero=>omega
 |succ g=>exact ⟨g,rfl,by rw [Int.pow_succ] at h;omega⟩
theorem Afw (t:Int):∀(f:Nat) (k q:Int),1≤k→3<Ip t f k q∧Ip t f k q≤15+k+f
 |0,k,q,h=>by rw [Ip];omega
 |f+1,k,q,h=>by
  rw [Ip]
  split
  ·split
   ·omega
   ·have:=Afw t f (k+1) (q / 2) (by omega);omega
  ·omega
theorem Amz (m:Me) (at_:Int):0≤m.level at_∧m.level at_≤25:=by
 have:=Afw (at_ % m.len) 9 1 m.u (by omega)
 unfold Me.level
 split
 ·omega
 ·split
  ·omega
  ·split
   ·omega
   ·split<;>omega
theorem Au4 {m:Me} {a:Int} (h:a % m.len=0):(0:Int)=m.level a:=by rw [Me.level,if_pos h]
theorem Au3 {m:Me} {a:Int} (h:¬a % m.len=0) (h1:(2*(a % m.len)=m.len∧(m.groups.length:Int) % 2=0)∧Jc m.groups=Jd m.groups):(1:Int)=m.level a:=by rw [Me.level,if_neg h,if_pos h1]
theorem Amy {m:Me} {a:Int} (h:¬a % m.len=0) (h1:¬((2*(a % m.len)=m.len∧(m.groups.length:Int) % 2=0)∧Jc m.groups=Jd m.groups)) (h2:a % m.len∈m.beats):(2:Int)=m.level a:=by rw [Me.level,if_neg h,if_neg h1,if_pos h2]
theorem Amx {m:Me} {a:Int} (h:¬a % m.len=0) (h1:¬((2*(a % m.len)=m.len∧(m.groups.length:Int) % 2=0)∧Jc m.groups=Jd m.groups)) (h2:¬a % m.len∈m.beats) (h3:a % m.len % m.u=0):(3:Int)=m.level a:=by rw [Me.level,if_neg h,if_neg h1,if_neg h2,if_pos h3]
theorem Amw {m:Me} {a:Int} (h:¬a % m.len=0) (h1:¬((2*(a % m.len)=m.len∧(m.groups.length:Int) % 2=0)∧Jc m.groups=Jd m.groups)) (h2:¬a % m.len∈m.beats) (h3:¬a % m.len % m.u=0):m.level a=Ip (a % m.len) 9 1 m.u:=by rw [Me.level,if_neg h,if_neg h1,if_neg h2,if_neg h3]
theorem Qm (m:Me) (a:Int) (h:Mok m) (ha:0≤a∧a≤4398046511104):XC Tryz.prog 156 [.agg (Me.c m), .v (.int .i64 a)] (fun r=>r=dI (m.level a)):=by
 have hl:=h.len
 have hg:=h.groups
 have hgp:=hg.pos
 have hu:=h.u
 have ht0:=Int.emod_nonneg a (by omega:m.len≠0)
 have ht1:=Int.emod_lt_of_pos a (by omega:0<m.len)
 refine An Ab7 Tryz.func156 R R lb<|zr<|XL.step R (Ap 2 (l:= [.d (dI m.count), .d (dI m.unit), .d (dI m.g0), .d (dI m.g1), .d (dI m.g2), .d (dI m.g3), .d (dI m.g4), .d (dI m.g5)]) R R (by kernel_rfl))<|za R R<|znr<|zm R R<|zp (Ae (s':= .d (.agg (Me.c m))) (Ac (Ad R R Bn R lb)) (by kernel_rfl))<|XL.call1 R R (Mb _ (by assumption)) R<|?_
 refine zp (Fu R R R (by omega) (by omega))<|za R R<|znr<|zp (Ae (s':= .d (.agg (Me.c m))) (Ac (Ad R R Bn R lb)) (by kernel_rfl))<|XL.call1 R R (U1 _ (by assumption)) R<|za R R<|zn<|zs<|Ah<|zr<|zm R R<|zp (Bi R R R)<|za R R<|zn<|?_
 refine zd R (fun c15=> ?_) (fun c15=> ?_)
 exact zr<|za R R<|zn<|zt<|z1 R R (rI (Au4 c15))
 refine zr<|zm R R<|zp (L9 R R R (by omega) (by omega))<|zp (Ae (s':= .d (.agg (Me.c m))) (Ac (Ad R R Bn R lb)) (by kernel_rfl))<|XL.call1 R R (Mb _ (by assumption)) R<|zp (Bi R R R)<|zm R R<|?_
 refine XL.dec 24 R (fun g24=> ?_) (fun g24=> ?_)
 refine zm R R<|XL.len R R R Tryz.underlying45 fun hl26=>zp (Fu R R R (by omega) (by omega))<|zp (Bi R R R)<|zq R R R<|zm R R<|?_
 refine XL.dec 30 R (fun g30=> ?_) (fun g30=> ?_)
 refine zm R R<|XL.call1 R R (Apo _ (by omega)) R<|zm R R<|XL.call1 R R (App _ (by omega)) R<|zp (Bi R R R)<|zq R R R<|za R R<|zn<|?_
 refine zd R (fun c18=> ?_) (fun c18=> ?_)
 exact zr<|za R R<|zn<|zt<|z1 R R (rI (Au3 c15 ⟨⟨g24,g30⟩,c18⟩))
 refine zs<|?_
 have hns:¬((2*(a % m.len)=m.len∧(m.groups.length:Int) % 2=0)∧Jc m.groups=Jd m.groups):=by first|exact fun k=>c18 k.2|exact fun k=>g30 k.1.2|exact fun k=>g24 k.1.1
 refine Ag (by kernel_rfl)<|zp (Ae (s':= .d (.agg (Me.c m))) (Ac (Ad R R Bn R lb)) (by kernel_rfl))<|XL.call1 R R (Qo _ (by assumption)) R<|zm R R<|XL.call1 R R (M3 _ _) R<|za R R<|zn<|?_
 refine zd R (fun c37=> ?_) (fun c37=> ?_)
 exact zr<|za R R<|zn<|zt<|z1 R R (rI (Amy c15 hns c37))
 refine zr<|zm R R<|zp (Ae (s':= .d (.agg (Me.c m))) (Ac (Ad R R Bn R lb)) (by kernel_rfl))<|XL.call1 R R (In _ (by assumption)) R<|zp (Fu R R R (by omega) (by omega))<|zp (Bi R R R)<|za R R<|zn<|?_
 refine zd R (fun c42=> ?_) (fun c42=> ?_)
 exact zr<|za R R<|zn<|zt<|z1 R R (rI (Amx c15 hns c37 c42))
 refine zi<|zs<|zr<|zp (Ae (s':= .d (.agg (Me.c m))) (Ac (Ad R R Bn R lb)) (by kernel_rfl))<|XL.call1 R R (In _ (by assumption)) R<|za R R<|za R R<|zn<|Ah<|?_
 refine Az (α:=Nat × Int × Int) (fun p=>Ip (a % m.len) p.1 p.2.1 p.2.2=m.level a∧1≤p.2.1∧p.2.1+p.1=10∧1≤p.2.2∧p.2.2≤1935360∧2*p.2.2≤7560*2 ^ p.1) (fun p=>mkF [(5, .d (dI (a % m.len))),(7, .d (dI p.2.1)),(8, .d (dI p.2.2))]) (fun p=>mkH []) (fun p=>p.1) ((9,1,m.u)) (⟨(Amw c15 hns c37 c42).symm,by simp only;omega,by simp only;omega,by simp only;omega,by simp only;omega,by show 2*m.u≤7560*2 ^ 9;omega⟩) ?_ ?_ ?_
 exact fz ⟨sr,sr,sr,trivial⟩
 exact HSub.nil
 intro p hk1
 obtain ⟨hgo,hk1,hkf,hq1,hq2,hq3⟩:=hk1
 refine zs<|zr<|zm R R<|zp (Fu R R R (by omega) (by omega))<|zp (Bi R R R)<|zm R R<|?_
 refine XL.dec 53 R (fun g53=> ?_) (fun g53=> ?_)
 refine zm R R<|zp (Jj R R R (by omega) (by omega) (by omega))<|zp (Gg R R R)<|zq R R R<|zn<|?_
 refine zd R (fun c57=> ?_) (fun c57=> ?_)
 obtain ⟨f,hf,hpw⟩:=Vr hq3 c57
 rw [hf] at hgo hkf
 refine zi<|zs<|Ah<|zr<|zm R R<|zp (Jj R R R (by omega) (by omega) (by omega))<|za R R<|znr<|zm R R<|zm R R<|zp (Fu R R R (by omega) (by omega))<|zp (Bi R R R)<|zn<|?_
 refine zd R (fun c65=> ?_) (fun c65=> ?_)
 exact zr<|zm R R<|zp (Al R R R (by omega) (by omega))<|za R R<|zn<|zt<|z1 R R (rI ((Tw ⟨g53,c57⟩ c65).symm.trans hgo))
 refine zi<|Ag (by kernel_rfl)<|zm R R<|zp (Al R R R (by omega) (by omega))<|za R R<|zn<|?_
 exact Am ((f,p.2.1+1,p.2.2 / 2)) (⟨by rw [←Qt ⟨g53,c57⟩ c65];exact hgo,by simp only;omega,by simp only;omega,by simp only;omega,by simp only;omega,by simp only;omega⟩) (by simp only;omega) (fz ⟨sr,sr,sr,trivial⟩) (HSub.nil)
 exact At<|zr<|za R R<|zn<|zt<|z1 R R (rI ((K2 (fun k=>c57 k.2)).symm.trans hgo))
 exact zk 3 R<|zq R R R<|zn<|A8 (by kernel_rfl) R<|At<|zr<|za R R<|zn<|zt<|z1 R R (rI ((K2 (fun k=>g53 k.1)).symm.trans hgo))
 refine zk 5 R<|zq R R R<|za R R<|zn<|A8 (by kernel_rfl) R<|zs<|?_
 have hns:¬((2*(a % m.len)=m.len∧(m.groups.length:Int) % 2=0)∧Jc m.groups=Jd m.groups):=by first|exact fun k=>c18 k.2|exact fun k=>g30 k.1.2|exact fun k=>g24 k.1.1
 refine Ag (by kernel_rfl)<|zp (Ae (s':= .d (.agg (Me.c m))) (Ac (Ad R R Bn R lb)) (by kernel_rfl))<|XL.call1 R R (Qo _ (by assumption)) R<|zm R R<|XL.call1 R R (M3 _ _) R<|za R R<|zn<|?_
 refine zd R (fun c37=> ?_) (fun c37=> ?_)
 exact zr<|za R R<|zn<|zt<|z1 R R (rI (Amy c15 hns c37))
 refine zr<|zm R R<|zp (Ae (s':= .d (.agg (Me.c m))) (Ac (Ad R R Bn R lb)) (by kernel_rfl))<|XL.call1 R R (In _ (by assumption)) R<|zp (Fu R R R (by omega) (by omega))<|zp (Bi R R R)<|za R R<|zn<|?_
 refine zd R (fun c42=> ?_) (fun c42=> ?_)
 exact zr<|za R R<|zn<|zt<|z1 R R (rI (Amx c15 hns c37 c42))
 refine zi<|zs<|zr<|zp (Ae (s':= .d (.agg (Me.c m))) (Ac (Ad R R Bn R lb)) (by kernel_rfl))<|XL.call1 R R (In _ (by assumption)) R<|za R R<|za R R<|zn<|Ah<|?_
 refine Az (α:=Nat × Int × Int) (fun p=>Ip (a % m.len) p.1 p.2.1 p.2.2=m.level a∧1≤p.2.1∧p.2.1+p.1=10∧1≤p.2.2∧p.2.2≤1935360∧2*p.2.2≤7560*2 ^ p.1) (fun p=>mkF [(5, .d (dI (a % m.len))),(7, .d (dI p.2.1)),(8, .d (dI p.2.2))]) (fun p=>mkH []) (fun p=>p.1) ((9,1,m.u)) (⟨(Amw c15 hns c37 c42).symm,by simp only;omega,by simp only;omega,by simp only;omega,by simp only;omega,by show 2*m.u≤7560*2 ^ 9;omega⟩) ?_ ?_ ?_
 exact fz ⟨sr,sr,sr,trivial⟩
 exact HSub.nil
 intro p hk1
 obtain ⟨hgo,hk1,hkf,hq1,hq2,hq3⟩:=hk1
 refine zs<|zr<|zm R R<|zp (Fu R R R (by omega) (by omega))<|zp (Bi R R R)<|zm R R<|?_
 refine XL.dec 53 R (fun g53=> ?_) (fun g53=> ?_)
 refine zm R R<|zp (Jj R R R (by omega) (by omega) (by omega))<|zp (Gg R R R)<|zq R R R<|zn<|?_
 refine zd R (fun c57=> ?_) (fun c57=> ?_)
 obtain ⟨f,hf,hpw⟩:=Vr hq3 c57
 rw [hf] at hgo hkf
 refine zi<|zs<|Ah<|zr<|zm R R<|zp (Jj R R R (by omega) (by omega) (by omega))<|za R R<|znr<|zm R R<|zm R R<|zp (Fu R R R (by omega) (by omega))<|zp (Bi R R R)<|zn<|?_
 refine zd R (fun c65=> ?_) (fun c65=> ?_)
 exact zr<|zm R R<|zp (Al R R R (by omega) (by omega))<|za R R<|zn<|zt<|z1 R R (rI ((Tw ⟨g53,c57⟩ c65).symm.trans hgo))
 refine zi<|Ag (by kernel_rfl)<|zm R R<|zp (Al R R R (by omega) (by omega))<|za R R<|zn<|?_
 exact Am ((f,p.2.1+1,p.2.2 / 2)) (⟨by rw [←Qt ⟨g53,c57⟩ c65];exact hgo,by simp only;omega,by simp only;omega,by simp only;omega,by simp only;omega,by simp only;omega⟩) (by simp only;omega) (fz ⟨sr,sr,sr,trivial⟩) (HSub.nil)
 exact At<|zr<|za R R<|zn<|zt<|z1 R R (rI ((K2 (fun k=>c57 k.2)).symm.trans hgo))
 exact zk 3 R<|zq R R R<|zn<|A8 (by kernel_rfl) R<|At<|zr<|za R R<|zn<|zt<|z1 R R (rI ((K2 (fun k=>g53 k.1)).symm.trans hgo))
 refine zk 4 R<|zq R R R<|zm R R<|zk 5 R<|zq R R R<|za R R<|zn<|A8 (by kernel_rfl) R<|zs<|?_
 have hns:¬((2*(a % m.len)=m.len∧(m.groups.length:Int) % 2=0)∧Jc m.groups=Jd m.groups):=by first|exact fun k=>c18 k.2|exact fun k=>g30 k.1.2|exact fun k=>g24 k.1.1
 refine Ag (by kernel_rfl)<|zp (Ae (s':= .d (.agg (Me.c m))) (Ac (Ad R R Bn R lb)) (by kernel_rfl))<|XL.call1 R R (Qo _ (by assumption)) R<|zm R R<|XL.call1 R R (M3 _ _) R<|za R R<|zn<|?_
 refine zd R (fun c37=> ?_) (fun c37=> ?_)
 exact zr<|za R R<|zn<|zt<|z1 R R (rI (Amy c15 hns c37))
 refine zr<|zm R R<|zp (Ae (s':= .d (.agg (Me.c m))) (Ac (Ad R R Bn R lb)) (by kernel_rfl))<|XL.call1 R R (In _ (by assumption)) R<|zp (Fu R R R (by omega) (by omega))<|zp (Bi R R R)<|za R R<|zn<|?_
 refine zd R (fun c42=> ?_) (fun c42=> ?_)
 exact zr<|za R R<|zn<|zt<|z1 R R (rI (Amx c15 hns c37 c42))
 refine zi<|zs<|zr<|zp (Ae (s':= .d (.agg (Me.c m))) (Ac (Ad R R Bn R lb)) (by kernel_rfl))<|XL.call1 R R (In _ (by assumption)) R<|za R R<|za R R<|zn<|Ah<|?_
 refine Az (α:=Nat × Int × Int) (fun p=>Ip (a % m.len) p.1 p.2.1 p.2.2=m.level a∧1≤p.2.1∧p.2.1+p.1=10∧1≤p.2.2∧p.2.2≤1935360∧2*p.2.2≤7560*2 ^ p.1) (fun p=>mkF [(5, .d (dI (a % m.len))),(7, .d (dI p.2.1)),(8, .d (dI p.2.2))]) (fun p=>mkH []) (fun p=>p.1) ((9,1,m.u)) (⟨(Amw c15 hns c37 c42).symm,by simp only;omega,by simp only;omega,by simp only;omega,by simp only;omega,by show 2*m.u≤7560*2 ^ 9;omega⟩) ?_ ?_ ?_
 exact fz ⟨sr,sr,sr,trivial⟩
 exact HSub.nil
 intro p hk1
 obtain ⟨hgo,hk1,hkf,hq1,hq2,hq3⟩:=hk1
 refine zs<|zr<|zm R R<|zp (Fu R R R (by omega) (by omega))<|zp (Bi R R R)<|zm R R<|?_
 refine XL.dec 53 R (fun g53=> ?_) (fun g53=> ?_)
 refine zm R R<|zp (Jj R R R (by omega) (by omega) (by omega))<|zp (Gg R R R)<|zq R R R<|zn<|?_
 refine zd R (fun c57=> ?_) (fun c57=> ?_)
 obtain ⟨f,hf,hpw⟩:=Vr hq3 c57
 rw [hf] at hgo hkf
 refine zi<|zs<|Ah<|zr<|zm R R<|zp (Jj R R R (by omega) (by omega) (by omega))<|za R R<|znr<|zm R R<|zm R R<|zp (Fu R R R (by omega) (by omega))<|zp (Bi R R R)<|zn<|?_
 refine zd R (fun c65=> ?_) (fun c65=> ?_)
 exact zr<|zm R R<|zp (Al R R R (by omega) (by omega))<|za R R<|zn<|zt<|z1 R R (rI ((Tw ⟨g53,c57⟩ c65).symm.trans hgo))
 refine zi<|Ag (by kernel_rfl)<|zm R R<|zp (Al R R R (by omega) (by omega))<|za R R<|zn<|?_
 exact Am ((f,p.2.1+1,p.2.2 / 2)) (⟨by rw [←Qt ⟨g53,c57⟩ c65];exact hgo,by simp only;omega,by simp only;omega,by simp only;omega,by simp only;omega,by simp only;omega⟩) (by simp only;omega) (fz ⟨sr,sr,sr,trivial⟩) (HSub.nil)
 exact At<|zr<|za R R<|zn<|zt<|z1 R R (rI ((K2 (fun k=>c57 k.2)).symm.trans hgo))
 exact zk 3 R<|zq R R R<|zn<|A8 (by kernel_rfl) R<|At<|zr<|za R R<|zn<|zt<|z1 R R (rI ((K2 (fun k=>g53 k.1)).symm.trans hgo))
def Ez (m:Me) (a:Int):Nat→Int × Int × Bool
 |0=>(0,0,false)
 |k+1=>if (Ez m a k).2.2=false∨m.level (a+7560*(k+1))<(Ez m a k).2.1 then (a+7560*(k+1),m.level (a+7560*(k+1)),true) else Ez m a k
def Dz (a b:Int):Nat:=((b - a - 1) / 7560).toNat
def Me.strong (m:Me) (a b:Int):Int × Int × Bool:=Ez m a (Dz a b)
theorem Ih {m:Me} {a:Int} {k:Nat} (h:(Ez m a k).2.2=false∨m.level (a+7560*(k+1))<(Ez m a k).2.1):Ez m a (k+1)=(a+7560*(k+1),m.level (a+7560*(k+1)),true):=by rw [Ez,if_pos h]
theorem Vi {m:Me} {a:Int} {k:Nat} (h:(Ez m a k).2.2=true) (h2:¬m.level (a+7560*(k+1))<(Ez m a k).2.1):Ez m a (k+1)=Ez m a k:=by rw [Ez,if_neg (by rw [h];exact fun k=>k.elim (fun k=>by cases k) h2)]
theorem E5 {b:Bool} (h:(!b)=true):b=false:=by simpa using h
theorem Ks {b:Bool} (h:(!b)=false):b=true:=by simpa using h
theorem Ahg (m:Me) (a b:Int) (h:Mok m) (ha:0≤a∧a≤4398046511104) (hb:b≤4398046511104):XC Tryz.prog 154 [.agg (Me.c m), .v (.int .i64 a), .v (.int .i64 b)] (fun r=>r= .tup [dI (m.strong a b).1,dI (m.strong a b).2.1,dB (m.strong a b).2.2]):=by
 have hN:Dz a b=((b - a - 1) / 7560).toNat:=rfl
 refine An Ab9 Tryz.func154 R R lb<|zr<|XL.step R (Ap 3 (l:= [.d (dI m.count), .d (dI m.unit), .d (dI m.g0), .d (dI m.g1), .d (dI m.g2), .d (dI m.g3), .d (dI m.g4), .d (dI m.g5)]) R R (by kernel_rfl))<|za R R<|za R R<|za R R<|zn<|zs<|zr<|zm R R<|zp (Al R R R (by omega) (by omega))<|za R R<|zn<|Ah<|?_
 refine Az (α:=Nat) (fun k=>k≤Dz a b) (fun k=>mkF [(2, .d (dI b)),(3, .ptr 3 0 0),(6, .d (dI (Ez m a k).1)),(7, .d (dI (Ez m a k).2.1)),(8, .d (dB (Ez m a k).2.2)),(9, .d (dI (a+7560*(k+1))))]) (fun k=>mkH [(3, .box ((Me.c m).map S.d))]) (fun k=>Dz a b - k) (0) (Nat.zero_le _) ?_ ?_ ?_
 exact fz ⟨sr,sr,sr,sr,sr,sr,trivial⟩
 exact gz ⟨R,trivial⟩
 intro k hk0
 refine zs<|zr<|zm R R<|zm R R<|zp (Au R R R)<|zn<|?_
 refine zd R (fun c15=> ?_) (fun c15=> ?_)
 have hlt:k<Dz a b:=by omega
 have hlv:=Amz m (a+7560*(k+1))
 refine zi<|zs<|Ah<|zr<|zp (Ae (s':= .d (.agg (Me.c m))) (Ac (Ad R R Bn R lb)) (by kernel_rfl))<|zm R R<|XL.call1 R R (Qm _ _ (by assumption) (by omega)) R<|za R R<|znr<|zm R R<|zp (D2 R R)<|zm R R<|?_
 refine XL.bool 23 R (fun g23=> ?_) (fun g23=> ?_)
 refine zk 3 R<|zq R R R<|zn<|Av (by kernel_rfl) R<|Ag (by kernel_rfl)<|zm R R<|zm R R<|za R R<|za R R<|za R R<|zn<|Ag (by kernel_rfl)<|zm R R<|zp (Al R R R (by omega) (by omega))<|?_
 refine za R R<|zn<|?_
 exact Am (k+1) (by omega) (by omega) (fz ⟨sr,sr, .same (sI (by rw [Ih (.inl (E5 g23))])), .same (sI (by rw [Ih (.inl (E5 g23))])), .same (sB (by rw [Ih (.inl (E5 g23))])), .same (sI (by omega)),trivial⟩) (gz ⟨R,trivial⟩)
 refine zm R R<|zm R R<|zp (Au R R R)<|zq R R R<|zn<|?_
 refine zd R (fun c27=> ?_) (fun c27=> ?_)
 refine Ag (by kernel_rfl)<|zm R R<|zm R R<|za R R<|za R R<|za R R<|zn<|Ag (by kernel_rfl)<|zm R R<|zp (Al R R R (by omega) (by omega))<|za R R<|zn<|?_
 exact Am (k+1) (by omega) (by omega) (fz ⟨sr,sr, .same (sI (by rw [Ih (.inr c27)])), .same (sI (by rw [Ih (.inr c27)])), .same (sB (by rw [Ih (.inr c27)])), .same (sI (by omega)),trivial⟩) (gz ⟨R,trivial⟩)
 refine zi<|Ag (by kernel_rfl)<|zm R R<|zp (Al R R R (by omega) (by omega))<|za R R<|zn<|?_
 exact Am (k+1) (by omega) (by omega) (fz ⟨sr,sr, .same (sI (by rw [Vi (Ks g23) c27])), .same (sI (by rw [Vi (Ks g23) c27])), .same (sB (by rw [Vi (Ks g23) c27])), .same (sI (by omega)),trivial⟩) (gz ⟨R,trivial⟩)
 have hk:k=Dz a b:=by omega
 refine At<|zr<|zm R R<|zm R R<|zm R R<|za R R<|za R R<|za R R<|zn<|zt<|?_
 exact Vk R (RV.tmp R R) (RV.tmp R R) (RV.tmp R R) (by rw [hk];rfl)
end Go.Proofs.YtaafemnkamfgnaaGreat
