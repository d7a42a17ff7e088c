/- Part 6 of what the statements need: lemmas and walks. -/
import Derived.Shelf.Bits.Mul64
import Derived.Test.YtcihalbakenleaaGreatProg
import Derived.Test.YtcihalbakenleaaGreatRs5
set_option linter.unusedVariables false
set_option linter.unusedSimpArgs false
set_option linter.unusedSectionVars false
set_option maxRecDepth 20000
set_option maxHeartbeats 8000000
namespace Go.Proofs
open Go.Shelf
def Tryz.lays264_ren:Go.Shelf.Ren:=⟨fun|264=>194|n=>n,fun|53=>215|46=>207|n=>n,fun|n=>n⟩
def Tryz.lays212_ren:Go.Shelf.Ren:=⟨fun|212=>191|263=>193|264=>194|n=>n,fun|46=>207|51=>212|146=>213|53=>215|148=>216|n=>n,fun|n=>n⟩
theorem Tryz.lays212 : Go.Proofs.Lays.n212 Tryz.prog Tryz.lays212_ren := {
 mixed:=by kernel_rfl
 f212:=Tryz.func191.trans (congrArg some (by kernel_rfl))
 f263:=Tryz.func193.trans (congrArg some (by kernel_rfl))
 f264:=Tryz.func194.trans (congrArg some (by kernel_rfl))
 t46:=Tryz.underlying207
 a46:=Tryz.isAgg207
 z46:=Tryz.sizeOf207
 v46:=Tryz.zeroValue207
 t51:=Tryz.underlying212
 a51:=Tryz.isAgg212
 z51:=Tryz.sizeOf212
 v51:=Tryz.zeroValue212
 t53:=Tryz.underlying215
 a53:=Tryz.isAgg215
 z53:=Tryz.sizeOf215
 v53:=Tryz.zeroValue215
 t146:=Tryz.underlying213
 a146:=Tryz.isAgg213
 z146:=Tryz.sizeOf213
 v146:=Tryz.zeroValue213
 t148:=Tryz.underlying216
 a148:=Tryz.isAgg216
 z148:=Tryz.sizeOf216
 v148 := Tryz.zeroValue216 }
open Go.RowKit Go.Lib in
theorem Tryz.bits_Mul (x y:Nat) (hx:x<18446744073709551616) (hy:y<18446744073709551616) (w:World):
  Calls Tryz.prog 191 #[.int .u64 x, .int .u64 y] w fun e w'=>e= .returned (.tuple #[.int .u64 ((x*y / 18446744073709551616:Nat):Int), .int .u64 ((x*y % 18446744073709551616:Nat):Int)])∧w'=w:=Any.bits_Mul Tryz.lays212 x y hx hy w
end Go.Proofs
namespace Go.Proofs.YtcihalbakenleaaGreat
open Go.RowKit
theorem Ank (n:Nat) (h:n≤64):XC Tryz.prog 191 [.v (.int .u64 1), .v (.int .u64 n)] (fun r=>r= .tup [.v (.int .u64 0), .v (.int .u64 n)]):=by
 refine Aqy Zk [.int .u64 1, .int .u64 n] (u:= .tuple #[.int .u64 0, .int .u64 n]) (fun w=> ?_) (fun H=> .tup _ _ R fun i x d hx hd=> ?_)
 ·have:=Tryz.bits_Mul 1 n (by omega) (by omega) w
  have e1:(1*n / 18446744073709551616:Nat)=0:=by omega
  have e2:(1*n % 18446744073709551616:Nat)=n:=by omega
  rw [e1,e2] at this
  exact this
 ·match i with
  |0=>cases hx;cases hd;exact .v _
  |1=>cases hx;cases hd;exact .v _
  |i+2=>cases hd
def rep (v:Int) (n k:Nat):List Int:=List.replicate k v++List.replicate (n - k) 0
theorem Aei {v:Int} {n k:Nat} (h:k≤n):(rep v n k).length=n:=by rw [rep,List.length_append,List.length_replicate,List.length_replicate];omega
theorem O6 {v:Int} {n k:Nat} (h:k≤n):((rep v n k).map iv).length=n:=by rw [List.length_map,Aei h]
theorem Rc (v:Int) (n k:Nat):(rep v n k).map iv=List.replicate k (iv v)++List.replicate (n - k) (iv 0):=by rw [rep,List.map_append,List.map_replicate,List.map_replicate]
theorem Ahy {v:Int} {n:Nat} (h:1≤n):sets (List.replicate n [dI 0]) 0 ((B4 [v]).take 1)=(rep v n 1).map iv:=by
 rw [Rc,Mh _ _ _ (by simp [B4];omega)]
 simp [B4,iv]
theorem Aj6 {v:Int} {n k:Nat} (h:k≤n):sets ((rep v n k).map iv) k (((((rep v n k).map iv).take k).drop 0).take (min k (n - k)))=(rep v n (k+min k (n - k))).map iv:=by
 have h1:((rep v n k).map iv).take k=List.replicate k (iv v):=by rw [Rc,List.take_append_of_le_length (by rw [List.length_replicate];exact Nat.le_refl _),List.take_replicate,Nat.min_self]
 have h2:min (min k (n - k)) k=min k (n - k):=by omega
 rw [h1,List.drop_zero,List.take_replicate,h2,Mh _ _ _ (by rw [O6 h,List.length_replicate];omega),h1,Rc,Rc,List.length_replicate,List.drop_append,List.drop_eq_nil_of_le (by rw [List.length_replicate];omega),List.nil_append,List.length_replicate,List.drop_replicate,List.replicate_append_replicate]
 congr 2
 omega
theorem Am7 (v:Int) (n:Nat):rep v n n=List.replicate n v:=by rw [rep,Nat.sub_self,List.replicate_zero,List.append_nil]
theorem Ab2 (v:Int) (n:Nat) (h:1≤n) (h2:n≤64):XC Tryz.prog 186 [.sl 1 (B4 [v]), .v (.int .i64 (n:Nat))] (fun r=>r= .sl 1 (B4 (List.replicate n v))):=by
 refine Ao Zp Tryz.func186 R R lb<|zr<|za R R<|zn<|zs<|zr<|zm R R<|zp (Aq R R R)<|zn<|?_
 refine zd R (fun c10=> ?_) (fun c10=> ?_)
 exfalso;omega
 refine zi<|zr<|zm R R<|XL.len R R R Tryz.underlying64 fun hl14=>zp (Al0 R R Tryz.underlying207 R (by simp) (by simp))<|zm R R<|zp (Al0 R R Tryz.underlying207 R (by omega) (by omega))<|XL.call1 R R (Ank n (by omega)) R<|zm R R<|zp (A6 R R R)<|zp (A6 R R R)<|za R R<|za R R<|zn<|?_
 refine zs<|zr<|zm R R<|zp (G4 (A5 R R R) (by omega))<|zm R R<|zm R R<|zp (G4 (A5 R R R) (by omega))<|zq R R R<|zn<|Bb (by kernel_rfl) R<|zi<|zr<|zm R R<|zp (Aq7 R R Tryz.underlying3 R (by omega) (by omega))<|?_
 refine XL.step R (Oi 30 (z:=(.int .i64 0)) (zs:= [dI 0]) (sz:=1) (bytes:=8) R R R Tryz.underlying64 (by kernel_rfl) (by kernel_rfl) (by kernel_rfl) (by decide) (by decide) (by omega) (by unfold maxLen;omega) (by omega))<|zp (A4 R (by conv=>lhs;whnf))<|?_
 refine znr<|zp (A3 R (by conv=>lhs;whnf))<|?_
 refine zm R R<|XL.step R (Am2 (l2:=(rep v n 1).map iv) (m:=1) R (.own R) (Src.sl (by omega)) C9 (by simp [B4];omega) (Ahy h))<|za R R<|zn<|zs<|Ai<|?_
 refine Av (α:=Nat) (fun k=>1≤k∧k≤n) (fun k=>mkF [(4, .d (.v (.slice none 0 0))),(7, .own 30),(8, .d (dI k))]) (fun k=>mkH [(30, .row 3 1 ((rep v n k).map iv))]) (fun k=>n - k) (1) (⟨Nat.le_refl _,h⟩) ?_ ?_ ?_
 exact fz ⟨sr,sr,sr,trivial⟩
 exact gz ⟨R,trivial⟩
 intro k hk0
 have hrl:(rep v n k).length=n:=Aei (by omega)
 refine zs<|zr<|zm R R<|zp (A3 R (by conv=>lhs;whnf))<|?_
 refine zp (Ce R R R Tryz.underlying64)<|zp (Aq R R R)<|zn<|?_
 refine zd R (fun c37=> ?_) (fun c37=> ?_)
 refine zi<|Ai<|Mn 7 8 [] id 30 (Su 30 (.row 3 1 ((rep v n (k+min k (n - k))).map iv))) (by kernel_rfl) (by kernel_rfl) (by kernel_rfl) (by kernel_rfl) (by decide)<|ChMK.fr R R (CStep.pure (A3 R (by conv=>lhs;whnf))) (CStep.pure (A3 R (by conv=>lhs;whnf))) (by exact rfl)<|?_
 refine ChMK.bf R (CStep.pure (A3 R (by conv=>lhs;whnf))) (by conv=>lhs;whnf)<|?_
 refine ChMK.bf R (CStep.pure (A3 R (by conv=>lhs;whnf))) (by conv=>lhs;whnf)<|?_
 refine ChMK.bf R (CStep.pure (Ye R R R C9 (Bd.at R) Bd.no (by rw [O6 (by omega)];omega) (Nat.le_refl _))) (by conv=>lhs;whnf)<|?_
 refine ChMK.bf R (CStep.pure (A3 R (by conv=>lhs;whnf))) (by conv=>lhs;whnf)<|?_
 refine ChMK.bf R (CStep.pure (A3 R (by conv=>lhs;whnf))) (by conv=>lhs;whnf)<|?_
 refine ChMK.bf R (CStep.pure (Ye R R R C9 Bd.no (Bd.at R) (Nat.zero_le _) (by rw [O6 (by omega)];omega))) (by conv=>lhs;whnf)<|?_
 refine ChMK.mu R (Apx (l2:=(rep v n (k+min k (n - k))).map iv) (m:=min k (n - k)) R (.sub R) (Src.part (.sub R)) C9 (by rw [List.length_drop,List.length_take,O6 (by omega)];omega) (Aj6 (by omega)))<|?_
 refine ChMK.nil ⟨⟨by kernel_rfl,by kernel_rfl,by kernel_rfl⟩, ?_⟩
 refine zp (Ak R R R (by omega) (by omega))<|za R R<|zn<|Hl<|?_
 exact Al (k+min k (n - k)) (by omega) (by omega) (fz ⟨sr,sr, .same (sI (by omega)),trivial⟩) (gz ⟨R,trivial⟩)
 have hk:k=n:=by omega
 subst hk
 refine At<|zr<|zp (A3 R (by conv=>lhs;whnf))<|?_
 refine zp (A4 R (by conv=>lhs;whnf))<|?_
 exact zn<|zt<|Cp (i:=30) R<|z1 R R (rSl (Am7 v k))
theorem O2 (v n:Int) (h:1≤n) (h2:n≤64):XC Tryz.prog 186 [.sl 1 (B4 [v]),dI n] (fun r=>r= .sl 1 (B4 (List.replicate n.toNat v))):=by
 obtain ⟨k,rfl⟩:=Int.eq_ofNat_of_zero_le (show 0≤n by omega)
 have:=Ab2 v k (by omega) (by omega)
 rwa [Int.toNat_natCast]
theorem Ug (g:Int):XC Tryz.prog 185 [.v (.int .i64 g)] (fun r=>r=dB (decide (g=0))):=by
 exact Ao Zq Tryz.func185 R R lb<|zr<|za R R<|znr<|zm R R<|zp (Az R R R)<|za R R<|zn<|zt<|z1 R R (R)
def nz (g:Int):Bool:=decide (g≠0)
theorem Ara {g:Int} (h:g=0):nz g=false:=by rw [nz,decide_eq_false];exact fun k=>k h
theorem Aif {g:Int} (h:¬g=0):nz g=true:=by rw [nz,decide_eq_true h]
def Me.groups (m:Me):List Int:=if ¬m.flat then m.gs.filter nz else if 8≤m.unit∧m.count % 3=0 then List.replicate (m.count / 3).toNat 3 else List.replicate m.count.toNat 1
theorem Al5 {m:Me} (h:¬m.flat):m.groups=m.gs.filter nz:=by rw [Me.groups,if_pos h]
theorem Ari {m:Me} (h:¬ ¬m.flat) (h2:8≤m.unit∧m.count % 3=0):m.groups=List.replicate (m.count / 3).toNat 3:=by rw [Me.groups,if_neg h,if_pos h2]
theorem Al4 {m:Me} (h:¬ ¬m.flat) (h2:¬(8≤m.unit∧m.count % 3=0)):m.groups=List.replicate m.count.toNat 1:=by rw [Me.groups,if_neg h,if_neg h2]
theorem Ai6 {l:List Int} {k:Nat} {g:Int} (h:l[k]? =some g) (hg:g=0):(l.take (k+1)).filter nz=(l.take k).filter nz:=by rw [Bp h,List.filter_append,List.filter_cons_of_neg (by rw [Ara hg];exact Bool.false_ne_true),List.filter_nil,List.append_nil]
theorem Ae2 {l:List Int} {k:Nat} {g:Int} (h:l[k]? =some g) (hg:¬g=0):(l.take (k+1)).filter nz=(l.take k).filter nz++ [g]:=by rw [Bp h,List.filter_append,List.filter_cons_of_pos (Aif hg),List.filter_nil]
structure DelI (xs:List Int) (j i:Nat) (W:List Int):Prop where
 lt:i<j
 le:j≤xs.length
 len:W.length=xs.length
 take:W.take i=(xs.take j).filter nz
 drop:W.drop j=xs.drop j
theorem DelI.get {xs W:List Int} {j i:Nat} (h:DelI xs j i W) {g:Int} (hg:xs[j]? =some g):W[j]? =some g:=by
 have:=congrArg (fun l=>l[0]?) h.drop
 simpa [List.getElem?_drop,hg] using this
theorem DelI.keep {xs W:List Int} {j i:Nat} (h:DelI xs j i W) {g:Int} (hg:xs[j]? =some g) (h0:g=0):DelI xs (j+1) i W:=by
 have:=(List.getElem?_eq_some_iff.1 hg).1
 have:=h.lt
 refine ⟨by omega,by omega,h.len,by rw [Ai6 hg h0];exact h.take, ?_⟩
 rw [←List.drop_drop,h.drop,List.drop_drop]
theorem DelI.put {xs W:List Int} {j i:Nat} (h:DelI xs j i W) {g:Int} (hg:xs[j]? =some g) (h0:¬g=0):DelI xs (j+1) (i+1) (W.set i g):=by
 have h1:=(List.getElem?_eq_some_iff.1 hg).1
 have h2:=h.lt
 have h3:=h.len
 refine ⟨by omega,by omega,by rw [List.length_set];exact h3, ?_, ?_⟩
 ·rw [Ae2 hg h0, ←h.take,List.take_succ_eq_append_getElem (by rw [List.length_set];omega),List.getElem_set_self,List.take_set_of_le (Nat.le_refl _)]
 ·rw [List.drop_set_of_lt (by omega), ←List.drop_drop,h.drop,List.drop_drop]
theorem DelI.start {xs:List Int} {k:Nat} {g:Int} (hg:xs[k]? =some g) (h0:g=0) (hk:(xs.take k).filter nz=xs.take k):DelI xs (k+1) k xs:=
 ⟨by omega,by have:=(List.getElem?_eq_some_iff.1 hg).1;omega,rfl,by rw [Ai6 hg h0,hk],rfl⟩
theorem DelI.fin {xs W:List Int} {j i:Nat} (h:DelI xs j i W) (hj:j=xs.length):W.take i=xs.filter nz:=by rw [h.take,hj,List.take_length]
theorem DelI.clr {xs W:List Int} {j i:Nat} (h:DelI xs j i W):sets (W.map iv) i (List.replicate ((W.map iv).length - i) [dI 0])=(W.take i++List.replicate (W.length - i) 0).map iv:=by
 have:=h.lt;have:=h.le;have:=h.len
 rw [Mh _ _ _ (by rw [List.length_replicate,List.length_map];omega),List.drop_eq_nil_of_le (by rw [List.length_replicate,List.length_map];omega),List.append_nil,List.map_append,List.map_take,List.map_replicate,List.length_map]
 rfl
theorem DelI.cut {xs W:List Int} {j i:Nat} (h:DelI xs j i W):(((W.take i++List.replicate (W.length - i) 0).map iv).take i)=(W.take i).map iv:=by
 have:=h.lt;have:=h.le;have:=h.len
 rw [←List.map_take,List.take_append_of_le_length (by rw [List.length_take];omega),List.take_take,Nat.min_self]
theorem T9 (m:Me) (h:Mok m):XC Tryz.prog 172 [.agg (Me.c m)] (fun r=>r= .sl 1 (B4 m.groups)):=by
 have hc:=h.count
 have hu:=h.unit
 have hx6:([m.g0,m.g1,m.g2,m.g3,m.g4,m.g5]:List Int).length=6:=rfl
 refine Ao Z1 Tryz.func172 R R lb<|zr<|XL.step R (As 1 (l:= [.d (dI m.count), .d (dI m.unit), .d (dI m.g0), .d (dI m.g1), .d (dI m.g2), .d (dI m.g3), .d (dI m.g4), .d (dI m.g5)]) R R (by kernel_rfl))<|za R R<|zn<|zs<|zr<|zp (Ab R R M6)<|?_
 refine zp (Ae (s':= .d (.agg [dI m.g0,dI m.g1,dI m.g2,dI m.g3,dI m.g4,dI m.g5])) (Ac (Ad R R Abt R lb)) (by kernel_rfl))<|zp (Ae (s':= .d (.agg [dI 0,dI 0,dI 0,dI 0,dI 0,dI 0])) (Ac (Pa R Tryz.underlying26 Df Ad3 R)) (by kernel_rfl))<|zp (Akd R R R)<|zn<|?_
 refine zd R (fun c6=> ?_) (fun c6=> ?_)
 refine zr<|zp (Ab R R M6)<|XL.freezeP 1 (ds:=Me.c m) R (by kernel_rfl) (by kernel_rfl)<|zp (Aca (r:=B4 [m.g0,m.g1,m.g2,m.g3,m.g4,m.g5]) R R Tryz.underlying26 Df (by unfold maxLen;omega) lb R)<|XL.callS R R ((Zg _ (by omega)).lab 7001) R<|?_
 refine XL.inl 900001 [(1, .d (.pt (Me.c m))),(2, .d (.v (.slice none 0 0)))] R R .d Zs Tryz.func183 R R lb (by simp only [List.forall_mem_cons];exact ⟨⟨Nat.le_of_ble_eq_true rfl,rfl⟩,⟨⟨Nat.le_of_ble_eq_true rfl,rfl⟩,fun p hp=>(by cases hp)⟩⟩) fun u1=>zr<|za R R<|znr<|zp (A3 R (by conv=>lhs;whnf))<|?_
 refine zm R R<|XL.inl 900002 [(0, .own 7001),(1, .d (.fn 185 [] [])),(4, .d (.v (.slice none 0 0)))] R R .d Q1 Tryz.func130 R R lb (by simp only [List.forall_mem_cons];exact ⟨⟨Nat.le_of_ble_eq_true rfl,rfl⟩,⟨⟨Nat.le_of_ble_eq_true rfl,rfl⟩,⟨⟨Nat.le_of_ble_eq_true rfl,rfl⟩,fun p hp=>(by cases hp)⟩⟩⟩) fun u2=>zr<|za R R<|zn<|zs<|zr<|zp (A3 R (by conv=>lhs;whnf))<|?_
 refine zp (Ce R R R Tryz.underlying64)<|zm R R<|zn<|Ai<|?_
 refine Av (α:=Nat) (fun k=>k≤6∧([m.g0,m.g1,m.g2,m.g3,m.g4,m.g5].take k).filter nz= [m.g0,m.g1,m.g2,m.g3,m.g4,m.g5].take k) (fun k=>mkF [(0, .own 7001),(1, .d (.fn 185 [] [])),(7, .d (dI ([m.g0,m.g1,m.g2,m.g3,m.g4,m.g5]).length)),(8, .d (dI k))]) (fun k=>mkH [(7001, .row 3 1 ((([m.g0,m.g1,m.g2,m.g3,m.g4,m.g5])).map iv)),(900001, .ghost u1 [(1, .d (.pt (Me.c m))),(2, .d (.v (.slice none 0 0)))]),(900002, .ghost u2 [(0, .own 7001),(1, .d (.fn 185 [] [])),(4, .d (.v (.slice none 0 0)))])]) (fun k=>6 - k) (0) (⟨Nat.zero_le _,R⟩) ?_ ?_ ?_
 exact fz ⟨sr,sr,sr,sr,trivial⟩
 exact gz ⟨R,R,R,trivial⟩
 intro k hk0x
 obtain ⟨hk,hfk⟩:=hk0x
 refine zr<|zp (Aq R R R)<|zn<|zs<|?_
 refine zd R (fun c9x=> ?_) (fun c9x=> ?_)
 obtain ⟨y,hy⟩:∃y, [m.g0,m.g1,m.g2,m.g3,m.g4,m.g5][k]? =some y:=Ap (by omega)
 refine zi<|zs<|Ai<|zr<|zm R R<|za R R<|znr<|zm R R<|zp (A3 R (by conv=>lhs;whnf))<|?_
 refine zm R R<|zp (Dj R R R (R) R C9 (by omega))<|zp (Ff R R Ah R (Cn (hy)) R)<|XL.callv1 (ds:= [_]) R R R (Ug _) R<|zn<|?_
 refine zd R (fun c16x=> ?_) (fun c16x=> ?_)
 refine zr<|zm R R<|za R R<|zn<|zt<|?_
 refine (F7 (l:= [(0, .own 7001),(1, .d (.fn 185 [] [])),(4, .d (.v (.slice none 0 0)))]) (by kernel_rfl) (rs1 R (RV.tmp R R)) ?_).2
 refine za R R<|zn<|zs<|zr<|zm R R<|zp (Az R R R)<|zn<|?_
 refine zd R (fun c12d=> ?_) (fun c12d=> ?_)
 exfalso;omega
 refine zi<|zs<|zr<|zm R R<|zp (Ak R R R (by omega) (by omega))<|za R R<|zn<|Ai<|?_
 refine Av (α:=Nat × Nat × List Int) (fun p=>DelI [m.g0,m.g1,m.g2,m.g3,m.g4,m.g5] p.1 p.2.1 p.2.2) (fun p=>mkF [(0, .own 7001),(1, .d (.fn 185 [] [])),(4, .d (.v (.slice none 0 0))),(5, .d (dI p.2.1)),(6, .d (dI p.1))]) (fun p=>mkH [(7001, .row 3 1 (p.2.2.map iv)),(900001, .ghost u1 [(1, .d (.pt (Me.c m))),(2, .d (.v (.slice none 0 0)))])]) (fun p=>6 - p.1) ((k+1,k, [m.g0,m.g1,m.g2,m.g3,m.g4,m.g5])) (DelI.start hy c16x hfk) ?_ ?_ ?_
 exact fz ⟨sr,sr,sr,sr,sr,trivial⟩
 exact gz ⟨R,R,trivial⟩
 intro p hk0d
 have hD:=hk0d
 have hlt:=hD.lt
 have hle:=hD.le
 have hlen:=hD.len
 refine zs<|zr<|zm R R<|zp (A3 R (by conv=>lhs;whnf))<|?_
 refine zp (Ce R R R Tryz.underlying64)<|zp (Aq R R R)<|zn<|?_
 refine zd R (fun c19d=> ?_) (fun c19d=> ?_)
 obtain ⟨z,hz⟩:∃z, [m.g0,m.g1,m.g2,m.g3,m.g4,m.g5][p.1]? =some z:=Ap (by omega)
 obtain ⟨w,hw⟩:∃w,p.2.2[p.2.1]? =some w:=Ap (by omega)
 refine zi<|zs<|Ai<|zr<|zp (A3 R (by conv=>lhs;whnf))<|?_
 refine zm R R<|zp (Dj R R R (R) R C9 (by have:=hD.len;omega))<|zp (Ff R R Ah R (Cn (hD.get hz)) R)<|za R R<|znr<|zm R R<|zm R R<|XL.callv1 (ds:= [_]) R R R (Ug _) R<|zp (Bo R R)<|zn<|?_
 refine zd R (fun c29d=> ?_) (fun c29d=> ?_)
 refine zr<|zp (A3 R (by conv=>lhs;whnf))<|?_
 refine zm R R<|zm R R<|zp (Dj R R R (R) R C9 (by have:=hD.lt;have:=hD.len;omega))<|XL.step R (Dl R R R (Cn hw) R R Df R lb)<|zng<|zm R R<|zp (Ak R R R (by omega) (by omega))<|za R R<|zn<|Af (by kernel_rfl)<|zm R R<|zp (Ak R R R (by omega) (by omega))<|za R R<|zn<|?_
 exact Al ((p.1+1,p.2.1+1,p.2.2.set p.2.1 z)) (hD.put hz c29d) (by show 6 - (p.1+1)<6 - p.1;omega) (fz ⟨sr,sr,sr,sr,sr,trivial⟩) (gz ⟨Ky R R,R,trivial⟩)
 refine zi<|Af (by kernel_rfl)<|zm R R<|zp (Ak R R R (by omega) (by omega))<|za R R<|zn<|?_
 exact Al ((p.1+1,p.2.1,p.2.2)) (hD.keep hz (Decidable.not_not.1 c29d)) (by show 6 - (p.1+1)<6 - p.1;omega) (fz ⟨sr,sr,sr,sr,sr,trivial⟩) (gz ⟨R,R,trivial⟩)
 have hfin:=hD.fin (by omega)
 refine At<|zr<|zp (A3 R (by conv=>lhs;whnf))<|?_
 refine zm R R<|zp (Ye R R R C9 (Bd.at R) Bd.no (by rw [List.length_map];have:=hD.lt;have:=hD.le;have:=hD.len;omega) (Nat.le_refl _))<|XL.step R (Ajx (l2:=(p.2.2.take p.2.1++List.replicate (p.2.2.length - p.2.1) 0).map iv) (zs:= [dI 0]) R (.sub R) Tryz.underlying64 Gt (by kernel_rfl) (by kernel_rfl) (by decide) (by omega) (hD.clr))<|znr<|?_
 refine zp (A3 R (by conv=>lhs;whnf))<|?_
 refine zm R R<|XL.step R (Tl R R R C9 (.at R) (by rw [List.length_map,List.length_append,List.length_take,List.length_replicate];have:=hD.lt;have:=hD.le;have:=hD.len;omega))<|zp (A4 R (by conv=>lhs;whnf))<|?_
 refine zn<|zt<|?_
 refine (F7 (l:= [(1, .d (.pt (Me.c m))),(2, .d (.v (.slice none 0 0)))]) (by kernel_rfl) (Em R (RVS.tmp R R)) ?_).2
 refine zp (A4 R (by conv=>lhs;whnf))<|?_
 exact zn<|zt<|Cp (i:=7001) R<|z1 R R (by rw [hD.cut];exact rSl (hfin.trans (Al5 c6).symm))
 refine zi<|Af (by kernel_rfl)<|zp (Ak R R R (by omega) (by omega))<|zm R R<|zn<|?_
 exact Al (k+1) (⟨by omega,by rw [Ae2 hy c16x,hfk, ←Bp hy]⟩) (by omega) (fz ⟨sr,sr,sr,sr,trivial⟩) (gz ⟨rfl,rfl,rfl,trivial⟩)
 have hfx: [m.g0,m.g1,m.g2,m.g3,m.g4,m.g5].filter nz= [m.g0,m.g1,m.g2,m.g3,m.g4,m.g5]:=by rw [show k= [m.g0,m.g1,m.g2,m.g3,m.g4,m.g5].length by omega,List.take_length] at hfk;exact hfk
 refine At<|zr<|za R R<|zn<|zt<|?_
 refine (F7 (l:= [(0, .own 7001),(1, .d (.fn 185 [] [])),(4, .d (.v (.slice none 0 0)))]) (by kernel_rfl) (rs1 R (RV.tmp R R)) ?_).2
 refine za R R<|zn<|zs<|zr<|zm R R<|zp (Dv (Az R R R) (by decide))<|zn<|An (by kernel_rfl) R<|zr<|zp (A3 R (by conv=>lhs;whnf))<|?_
 refine zp (A4 R (by conv=>lhs;whnf))<|?_
 refine zn<|zt<|?_
 refine (F7 (l:= [(1, .d (.pt (Me.c m))),(2, .d (.v (.slice none 0 0)))]) (by kernel_rfl) (Em R (RVS.tmp R R)) ?_).2
 refine zp (A4 R (by conv=>lhs;whnf))<|?_
 exact zn<|zt<|Cp (i:=7001) R<|z1 R R (rSl (hfx.symm.trans (Al5 c6).symm))
 refine zi<|zs<|zr<|zp (Ab R R J1)<|zp (Aa R R Ah R R)<|zp (E4 R R R)<|zm R R<|?_
 refine XL.dec 14 R (fun g14=> ?_) (fun g14=> ?_)
 refine zp (Ab R R Gz)<|zp (Aa R R Ah R R)<|zp (F5 R R R (by omega) (by omega))<|zp (Az R R R)<|zq R R R<|zn<|?_
 refine zd R (fun c19=> ?_) (fun c19=> ?_)
 exact zr<|XL.step R (J6 (l:=B4 [3]) R Tryz.underlying64 Df Gt (by kernel_rfl) R (by omega) (by omega))<|zp (Ab R R Gz)<|zp (Aa R R Ah R R)<|zp (G2 R R R (by omega) (by omega) (by omega))<|XL.call1 R R (O2 _ _ (by omega) (by omega)) R<|za R R<|zn<|zt<|z1 R R (rSl (Ari c6 (by omega)).symm)
 exact zi<|zr<|XL.step R (J6 (l:=B4 [1]) R Tryz.underlying64 Df Gt (by kernel_rfl) R (by omega) (by omega))<|zp (Ab R R Gz)<|zp (Aa R R Ah R R)<|XL.call1 R R (O2 _ _ (by omega) (by omega)) R<|za R R<|zn<|zt<|z1 R R (rSl (Al4 c6 (by omega)).symm)
 exact zk 4 R<|zq R R R<|zn<|Bb (by kernel_rfl) R<|zi<|zr<|XL.step R (J6 (l:=B4 [1]) R Tryz.underlying64 Df Gt (by kernel_rfl) R (by omega) (by omega))<|zp (Ab R R Gz)<|zp (Aa R R Ah R R)<|XL.call1 R R (O2 _ _ (by omega) (by omega)) R<|za R R<|zn<|zt<|z1 R R (rSl (Al4 c6 (by omega)).symm)
end Go.Proofs.YtcihalbakenleaaGreat
namespace Go.Proofs.YtcihalbakenleaaGreat
open Go.RowKit
structure Grs (l:List Int):Prop where
 pos:0<l.length
 len:l.length≤64
 bd:∀g∈l,0≤g∧g≤64
theorem Y1 {c:Int}:∀(l:List Int) (k:Nat) (s n:Int),gOk c (gGo k s n l)→∀g∈l,0≤g∧g≤64
 | [],_,_,_,_,g,hg=>by cases hg
 |x::r,k,s,n,h,g,hg=>by
  rw [gGo] at h
  split at h
  ·exact h.elim
  ·rename_i hx
   rcases List.mem_cons.1 hg with rfl|hg
   ·omega
   ·split at h
    ·exact Y1 r _ _ _ h g hg
    ·exact Y1 r _ _ _ h g hg
theorem Mok.groups {m:Me} (h:Mok m):Grs m.groups:=by
 have hc:=h.count
 unfold Me.groups
 by_cases hf:m.flat
 ·rw [if_neg (fun k=>k hf)]
  split
  ·rename_i h3
   have:(m.count / 3).toNat≤64∧0<(m.count / 3).toNat:=by omega
   exact ⟨by rw [List.length_replicate];omega,by rw [List.length_replicate];omega,fun g hg=>by rw [List.eq_of_mem_replicate hg];omega⟩
  ·exact ⟨by rw [List.length_replicate];omega,by rw [List.length_replicate];omega,fun g hg=>by rw [List.eq_of_mem_replicate hg];omega⟩
 ·rw [if_pos hf]
  refine ⟨?_,Nat.le_trans (List.length_filter_le _ _) (show (6:Nat)≤64 by decide),fun g hg=> ?_⟩
  ·refine List.length_pos_iff.2 fun e=>hf ?_
   have h0:∀g∈m.gs,g=0:=fun g hg=>Decidable.byContradiction fun k=>by
    have:=List.mem_filter.2 ⟨hg,Aif k⟩
    rw [e] at this;cases this
   exact ⟨h0 _ (by simp [Me.gs]),h0 _ (by simp [Me.gs]),h0 _ (by simp [Me.gs]),h0 _ (by simp [Me.gs]),h0 _ (by simp [Me.gs]),h0 _ (by simp [Me.gs])⟩
  ·exact Y1 m.gs 0 0 0 (h.grp.elim (fun k=>absurd k hf) fun k=>k) g (List.mem_filter.1 hg).1
theorem Grs.tot {l:List Int} (h:Grs l) (k:Nat):0≤tot (l.take k)∧tot (l.take k)≤4096:=by
 have:=Nums.tot (l:=l.take k) ⟨Nat.le_trans (List.length_take_le' _ _) (Nat.le_trans h.len (by decide)),fun x hx=>by have:=h.bd x (List.mem_of_mem_take hx);omega⟩
 refine ⟨this.1, ?_⟩
 have h2 : ∀ l : List Int, (∀ g ∈ l, 0 ≤ g ∧ g ≤ 64) → Go.Proofs.YtcihalbakenleaaGreat.tot l ≤ (l.length : Int) * 64 := fun l => Kw (p := fun l => (∀ g ∈ l, 0 ≤ g ∧ g ≤ 64) → Go.Proofs.YtcihalbakenleaaGreat.tot l ≤ (l.length : Int) * 64) (fun _ => by simp [Go.Proofs.YtcihalbakenleaaGreat.tot]) (fun l x ih h => by
  have h1:=ih fun y hy=>h y (List.mem_append_left _ hy)
  have h2:=h x (List.mem_append_right _ (List.mem_singleton.2 rfl))
  rw [H7,List.length_append,List.length_singleton,Int.natCast_add,Int.add_mul]
  omega) l
 have:=h2 (l.take k) fun g hg=>h.bd g (List.mem_of_mem_take hg)
 have h3:(l.take k).length≤64:=Nat.le_trans (List.length_take_le' _ _) h.len
 omega
def Me.beats (m:Me):List Int:=(List.range m.groups.length).map fun k=>tot (m.groups.take k)*m.u
theorem Ajg (m:Me):m.beats.length=m.groups.length:=by rw [Me.beats,List.length_map,List.length_range]
theorem Ajh {m:Me} {k:Nat} (h:k<m.groups.length):m.beats[k]? =some (tot (m.groups.take k)*m.u):=by rw [Me.beats,List.getElem?_map,List.getElem?_range h];rfl
theorem Yq {a b:Int} (h1:0≤a) (h2:a≤4096) (h3:0≤b) (h4:b≤1935360):0≤a*b∧a*b≤7927234560:=
 ⟨Int.mul_nonneg h1 h3,by have:=Int.mul_le_mul h2 h4 h3 (by omega:(0:Int)≤4096);omega⟩
theorem Qn (m:Me) (h:Mok m):XC Tryz.prog 176 [.agg (Me.c m)] (fun r=>r= .sl 1 (B4 m.beats)):=by
 have hg:=h.groups
 have hu:=h.u
 have hbl:=Ajg m
 refine Ao Zx Tryz.func176 R R lb<|zr<|XL.step R (As 1 (l:= [.d (dI m.count), .d (dI m.unit), .d (dI m.g0), .d (dI m.g1), .d (dI m.g2), .d (dI m.g3), .d (dI m.g4), .d (dI m.g5)]) R R (by kernel_rfl))<|za R R<|znr<|za R R<|znr<|za R R<|zn<|zs<|zr<|zp (Ae (s':= .d (.agg (Me.c m))) (Ac (Ad R R Ci R lb)) (by kernel_rfl))<|?_
 refine XL.call1 R R (T9 _ (by assumption)) R<|XL.len R R R Tryz.underlying64 fun hl9=>zm R R<|zn<|Ai<|Fj 900 3 3 1 R<|?_
 refine Av (α:=Nat) (fun k=>k≤m.groups.length) (fun k=>mkF [(1, .ptr 1 0 0),(2, .d (.v (.slice none 0 0))),(3, .own 900),(4, .d (dI (tot (m.groups.take k)*m.u))),(8, .d (.sl 1 (B4 m.groups))),(9, .d (dI m.groups.length)),(10, .d (dI k))]) (fun k=>mkH [(1, .box ((Me.c m).map S.d)),(900, .row 3 1 ((m.beats.take k).map iv))]) (fun k=>m.groups.length - k) (0) (Nat.zero_le _) ?_ ?_ ?_
 exact fz ⟨sr,sr,sr, .same (sI (by rw [List.take_zero];show 0=0*m.u;omega)),sr,sr,sr,trivial⟩
 exact gz ⟨R,R,trivial⟩
 intro k hk0
 refine zr<|zp (Aq R R R)<|zn<|zs<|?_
 refine zd R (fun c11=> ?_) (fun c11=> ?_)
 have hk0a:k<m.groups.length:=by omega
 obtain ⟨x0,hx0⟩:=Ap hk0a
 have hx1:=hg.bd x0 (List.mem_of_getElem? hx0)
 have ht1:=hg.tot k
 have ht2:=hg.tot (k+1)
 have hb1:=Yq ht1.1 ht1.2 (by omega) hu.2
 have hb2:=Yq ht2.1 ht2.2 (by omega) hu.2
 have hb3:=Yq hx1.1 (by omega:x0≤4096) (by omega) hu.2
 have hst:tot (m.groups.take (k+1))*m.u=tot (m.groups.take k)*m.u+x0*m.u:=by rw [Sc hx0,Int.add_mul]
 have hgl:=hg.len
 refine zi<|zs<|Ai<|zr<|zp (Am R R R C9 hx0)<|zp (Aw R R Ah)<|za R R<|zn<|Mn 3 11 [] (S.kill 900) 900 (Yt 900 (.row 3 1 (((m.beats.take k)++ [tot (m.groups.take k)*m.u]).map iv))) (by kernel_rfl) (by kernel_rfl) (by kernel_rfl) (by kernel_rfl) (by decide)<|ChMK.bf R (CStep.pure (A3 R (by conv=>lhs;whnf))) (by conv=>lhs;whnf)<|?_
 refine ChMK.bf R (CStep.pure (A3 R (by conv=>lhs;whnf))) (by conv=>lhs;whnf)<|?_
 refine ChMK.bf R (CStep.slice (l:=B4 [(tot (m.groups.take k)*m.u)]) R Tryz.underlying64 Df Gt (by kernel_rfl) R (by omega) (by omega)) (by conv=>lhs;whnf)<|?_
 refine ChMK.mu R (Ys (l2:=((m.beats.take k)++ [tot (m.groups.take k)*m.u]).map iv) R On (.own R) (Src.sl (by omega)) (by rw [List.length_map,List.length_take];simp [B4,maxLen];omega) (by rw [List.length_map,List.length_take];simp [B4];omega) (by rw [List.map_append];rfl))<|?_
 refine ChMK.fr R R (CStep.pure (A3 R (by conv=>lhs;whnf))) (CStep.pure (A3 R (by conv=>lhs;whnf))) (by exact rfl)<|?_
 refine ChMK.fr R R (CStep.pure (A3 R (by conv=>lhs;whnf))) (CStep.pure (A3 R (by conv=>lhs;whnf))) (by exact rfl)<|?_
 refine ChMK.fr R R (CStep.pure (Ae (s':= .d (.agg (Me.c m))) (Ac (Ad R R Ci R lb)) (by kernel_rfl))) (CStep.pure (Ae (s':= .d (.agg (Me.c m))) (Ac (Ad R R Ci R lb)) (by kernel_rfl))) (by exact rfl)<|ChMK.af R (CStep.call R (I3 _ (by assumption)) R)<|ChMK.af R (CStep.pure (Id R R R (by omega) (by omega)))<|?_
 refine ChMK.af R (CStep.pure (Ak R R R (by omega) (by omega)))<|ChMK.af R (CStep.pure (A4 R (by conv=>lhs;whnf)))<|?_
 refine ChMK.nil ⟨⟨by kernel_rfl,by kernel_rfl,by kernel_rfl⟩, ?_⟩
 refine za R R<|zn<|Af (by kernel_rfl)<|zp (Ak R R R (by omega) (by omega))<|zm R R<|zn<|?_
 exact Al (k+1) (by omega) (by omega) (fz ⟨sr,sr,sr, .same (sI hst.symm),sr,sr,sr,trivial⟩) (gz ⟨R,Us (Bp (Ajh hk0a)).symm,trivial⟩)
 have hk0b:k=m.groups.length:=by omega
 have ht:m.beats.take k=m.beats:=by rw [hk0b, ←hbl,List.take_length]
 refine At<|zr<|zp (A3 R (by conv=>lhs;whnf))<|?_
 refine zp (A4 R (by conv=>lhs;whnf))<|?_
 exact zn<|zt<|Cp (i:=900) R<|z1 R R (rSl ht)
def I5 (t:Int):Nat→Int→Int→Int
 |0,_,_=>15
 |f+1,k,q=>if q % 2=0∧7560≤q / 2 then (if t % (q / 2)=0 then 3+k else I5 t f (k+1) (q / 2)) else 15
def Me.level (m:Me) (at_:Int):Int:=
 if at_ % m.len=0 then 0 else if (2*(at_ % m.len)=m.len∧(m.groups.length:Int) % 2=0)∧Hc m.groups=He m.groups then 1 else if at_ % m.len∈m.beats then 2 else if at_ % m.len % m.u=0 then 3 else I5 (at_ % m.len) 9 1 m.u
theorem Sv {t:Int} {f:Nat} {k q:Int} (h:q % 2=0∧7560≤q / 2) (h2:t % (q / 2)=0):I5 t (f+1) k q=3+k:=by rw [I5,if_pos h,if_pos h2]
theorem Qp {t:Int} {f:Nat} {k q:Int} (h:q % 2=0∧7560≤q / 2) (h2:¬t % (q / 2)=0):I5 t (f+1) k q=I5 t f (k+1) (q / 2):=by rw [I5,if_pos h,if_neg h2]
theorem K3 {t:Int} {f:Nat} {k q:Int} (h:¬(q % 2=0∧7560≤q / 2)):I5 t f k q=15:=by
 cases f with
 |zero=>rfl
 |succ f=>rw [I5,if_neg h]
theorem Uy {f:Nat} {q:Int} (h:2*q≤7560*2 ^ f) (h2:7560≤q / 2):∃g,f=g+1∧2*(q / 2)≤7560*2 ^ g:=by
 cases f with
 |zero=>omega
 |succ g=>exact ⟨g,rfl,by rw [Int.pow_succ] at h;omega⟩
theorem Aeu (t:Int):∀(f:Nat) (k q:Int),1≤k→3<I5 t f k q∧I5 t f k q≤15+k+f
 |0,k,q,h=>by rw [I5];omega
 |f+1,k,q,h=>by
  rw [I5]
  split
  ·split
   ·omega
   ·have:=Aeu t f (k+1) (q / 2) (by omega);omega
  ·omega
theorem Akt (m:Me) (at_:Int):0≤m.level at_∧m.level at_≤25:=by
 have:=Aeu (at_ % m.len) 9 1 m.u (by omega)
 unfold Me.level
 split
 ·omega
 ·split
  ·omega
  ·split
   ·omega
   ·split<;>omega
theorem Asj {m:Me} {a:Int} (h:a % m.len=0):(0:Int)=m.level a:=by rw [Me.level,if_pos h]
theorem Asi {m:Me} {a:Int} (h:¬a % m.len=0) (h1:(2*(a % m.len)=m.len∧(m.groups.length:Int) % 2=0)∧Hc m.groups=He m.groups):(1:Int)=m.level a:=by rw [Me.level,if_neg h,if_pos h1]
theorem Aks {m:Me} {a:Int} (h:¬a % m.len=0) (h1:¬((2*(a % m.len)=m.len∧(m.groups.length:Int) % 2=0)∧Hc m.groups=He m.groups)) (h2:a % m.len∈m.beats):(2:Int)=m.level a:=by rw [Me.level,if_neg h,if_neg h1,if_pos h2]
theorem Akr {m:Me} {a:Int} (h:¬a % m.len=0) (h1:¬((2*(a % m.len)=m.len∧(m.groups.length:Int) % 2=0)∧Hc m.groups=He m.groups)) (h2:¬a % m.len∈m.beats) (h3:a % m.len % m.u=0):(3:Int)=m.level a:=by rw [Me.level,if_neg h,if_neg h1,if_neg h2,if_pos h3]
theorem Akq {m:Me} {a:Int} (h:¬a % m.len=0) (h1:¬((2*(a % m.len)=m.len∧(m.groups.length:Int) % 2=0)∧Hc m.groups=He m.groups)) (h2:¬a % m.len∈m.beats) (h3:¬a % m.len % m.u=0):m.level a=I5 (a % m.len) 9 1 m.u:=by rw [Me.level,if_neg h,if_neg h1,if_neg h2,if_neg h3]
theorem Qm (m:Me) (a:Int) (h:Mok m) (ha:0≤a∧a≤4398046511104):XC Tryz.prog 144 [.agg (Me.c m), .v (.int .i64 a)] (fun r=>r=dI (m.level a)):=by
 have hl:=h.len
 have hg:=h.groups
 have hgp:=hg.pos
 have hu:=h.u
 have ht0:=Int.emod_nonneg a (by omega:m.len≠0)
 have ht1:=Int.emod_lt_of_pos a (by omega:0<m.len)
 refine Ao Aal Tryz.func144 R R lb<|zr<|XL.step R (As 2 (l:= [.d (dI m.count), .d (dI m.unit), .d (dI m.g0), .d (dI m.g1), .d (dI m.g2), .d (dI m.g3), .d (dI m.g4), .d (dI m.g5)]) R R (by kernel_rfl))<|za R R<|znr<|zm R R<|zp (Ae (s':= .d (.agg (Me.c m))) (Ac (Ad R R Ci R lb)) (by kernel_rfl))<|XL.call1 R R (T8 _ (by assumption)) R<|?_
 refine zp (F5 R R R (by omega) (by omega))<|za R R<|znr<|zp (Ae (s':= .d (.agg (Me.c m))) (Ac (Ad R R Ci R lb)) (by kernel_rfl))<|XL.call1 R R (T9 _ (by assumption)) R<|za R R<|zn<|zs<|Ai<|zr<|zm R R<|zp (Az R R R)<|za R R<|zn<|?_
 refine zd R (fun c15=> ?_) (fun c15=> ?_)
 exact zr<|za R R<|zn<|zt<|z1 R R (rI (Asj c15))
 refine zr<|zm R R<|zp (Id R R R (by omega) (by omega))<|zp (Ae (s':= .d (.agg (Me.c m))) (Ac (Ad R R Ci R lb)) (by kernel_rfl))<|XL.call1 R R (T8 _ (by assumption)) R<|zp (Az R R R)<|zm R R<|?_
 refine XL.dec 24 R (fun g24=> ?_) (fun g24=> ?_)
 refine zm R R<|XL.len R R R Tryz.underlying64 fun hl26=>zp (F5 R R R (by omega) (by omega))<|zp (Az R R R)<|zq R R R<|zm R R<|?_
 refine XL.dec 30 R (fun g30=> ?_) (fun g30=> ?_)
 refine zm R R<|XL.call1 R R (Am4 _ (by omega)) R<|zm R R<|XL.call1 R R (Am5 _ (by omega)) R<|zp (Az R R R)<|zq R R R<|za R R<|zn<|?_
 refine zd R (fun c18=> ?_) (fun c18=> ?_)
 exact zr<|za R R<|zn<|zt<|z1 R R (rI (Asi c15 ⟨⟨g24,g30⟩,c18⟩))
 refine zs<|?_
 have hns:¬((2*(a % m.len)=m.len∧(m.groups.length:Int) % 2=0)∧Hc m.groups=He m.groups):=by first|exact fun k=>c18 k.2|exact fun k=>g30 k.1.2|exact fun k=>g24 k.1.1
 refine Af (by kernel_rfl)<|zp (Ae (s':= .d (.agg (Me.c m))) (Ac (Ad R R Ci R lb)) (by kernel_rfl))<|XL.call1 R R (Qn _ (by assumption)) R<|zm R R<|XL.call1 R R (Mr _ _) R<|za R R<|zn<|?_
 refine zd R (fun c37=> ?_) (fun c37=> ?_)
 exact zr<|za R R<|zn<|zt<|z1 R R (rI (Aks c15 hns c37))
 refine zr<|zm R R<|zp (Ae (s':= .d (.agg (Me.c m))) (Ac (Ad R R Ci R lb)) (by kernel_rfl))<|XL.call1 R R (I3 _ (by assumption)) R<|zp (F5 R R R (by omega) (by omega))<|zp (Az R R R)<|za R R<|zn<|?_
 refine zd R (fun c42=> ?_) (fun c42=> ?_)
 exact zr<|za R R<|zn<|zt<|z1 R R (rI (Akr c15 hns c37 c42))
 refine zi<|zs<|zr<|zp (Ae (s':= .d (.agg (Me.c m))) (Ac (Ad R R Ci R lb)) (by kernel_rfl))<|XL.call1 R R (I3 _ (by assumption)) R<|za R R<|za R R<|zn<|Ai<|?_
 refine Av (α:=Nat × Int × Int) (fun p=>I5 (a % m.len) p.1 p.2.1 p.2.2=m.level a∧1≤p.2.1∧p.2.1+p.1=10∧1≤p.2.2∧p.2.2≤1935360∧2*p.2.2≤7560*2 ^ p.1) (fun p=>mkF [(5, .d (dI (a % m.len))),(7, .d (dI p.2.1)),(8, .d (dI p.2.2))]) (fun p=>mkH []) (fun p=>p.1) ((9,1,m.u)) (⟨(Akq c15 hns c37 c42).symm,by simp only;omega,by simp only;omega,by simp only;omega,by simp only;omega,by show 2*m.u≤7560*2 ^ 9;omega⟩) ?_ ?_ ?_
 exact fz ⟨sr,sr,sr,trivial⟩
 exact HSub.nil
 intro p hk1
 obtain ⟨hgo,hk1,hkf,hq1,hq2,hq3⟩:=hk1
 refine zs<|zr<|zm R R<|zp (F5 R R R (by omega) (by omega))<|zp (Az R R R)<|zm R R<|?_
 refine XL.dec 53 R (fun g53=> ?_) (fun g53=> ?_)
 refine zm R R<|zp (G2 R R R (by omega) (by omega) (by omega))<|zp (E4 R R R)<|zq R R R<|zn<|?_
 refine zd R (fun c57=> ?_) (fun c57=> ?_)
 obtain ⟨f,hf,hpw⟩:=Uy hq3 c57
 rw [hf] at hgo hkf
 refine zi<|zs<|Ai<|zr<|zm R R<|zp (G2 R R R (by omega) (by omega) (by omega))<|za R R<|znr<|zm R R<|zm R R<|zp (F5 R R R (by omega) (by omega))<|zp (Az R R R)<|zn<|?_
 refine zd R (fun c65=> ?_) (fun c65=> ?_)
 exact zr<|zm R R<|zp (Ak R R R (by omega) (by omega))<|za R R<|zn<|zt<|z1 R R (rI ((Sv ⟨g53,c57⟩ c65).symm.trans hgo))
 refine zi<|Af (by kernel_rfl)<|zm R R<|zp (Ak R R R (by omega) (by omega))<|za R R<|zn<|?_
 exact Al ((f,p.2.1+1,p.2.2 / 2)) (⟨by rw [←Qp ⟨g53,c57⟩ c65];exact hgo,by simp only;omega,by simp only;omega,by simp only;omega,by simp only;omega,by simp only;omega⟩) (by simp only;omega) (fz ⟨sr,sr,sr,trivial⟩) (HSub.nil)
 exact At<|zr<|za R R<|zn<|zt<|z1 R R (rI ((K3 (fun k=>c57 k.2)).symm.trans hgo))
 exact zk 3 R<|zq R R R<|zn<|Bb (by kernel_rfl) R<|At<|zr<|za R R<|zn<|zt<|z1 R R (rI ((K3 (fun k=>g53 k.1)).symm.trans hgo))
 refine zk 5 R<|zq R R R<|za R R<|zn<|Bb (by kernel_rfl) R<|zs<|?_
 have hns:¬((2*(a % m.len)=m.len∧(m.groups.length:Int) % 2=0)∧Hc m.groups=He m.groups):=by first|exact fun k=>c18 k.2|exact fun k=>g30 k.1.2|exact fun k=>g24 k.1.1
 refine Af (by kernel_rfl)<|zp (Ae (s':= .d (.agg (Me.c m))) (Ac (Ad R R Ci R lb)) (by kernel_rfl))<|XL.call1 R R (Qn _ (by assumption)) R<|zm R R<|XL.call1 R R (Mr _ _) R<|za R R<|zn<|?_
 refine zd R (fun c37=> ?_) (fun c37=> ?_)
 exact zr<|za R R<|zn<|zt<|z1 R R (rI (Aks c15 hns c37))
 refine zr<|zm R R<|zp (Ae (s':= .d (.agg (Me.c m))) (Ac (Ad R R Ci R lb)) (by kernel_rfl))<|XL.call1 R R (I3 _ (by assumption)) R<|zp (F5 R R R (by omega) (by omega))<|zp (Az R R R)<|za R R<|zn<|?_
 refine zd R (fun c42=> ?_) (fun c42=> ?_)
 exact zr<|za R R<|zn<|zt<|z1 R R (rI (Akr c15 hns c37 c42))
 refine zi<|zs<|zr<|zp (Ae (s':= .d (.agg (Me.c m))) (Ac (Ad R R Ci R lb)) (by kernel_rfl))<|XL.call1 R R (I3 _ (by assumption)) R<|za R R<|za R R<|zn<|Ai<|?_
 refine Av (α:=Nat × Int × Int) (fun p=>I5 (a % m.len) p.1 p.2.1 p.2.2=m.level a∧1≤p.2.1∧p.2.1+p.1=10∧1≤p.2.2∧p.2.2≤1935360∧2*p.2.2≤7560*2 ^ p.1) (fun p=>mkF [(5, .d (dI (a % m.len))),(7, .d (dI p.2.1)),(8, .d (dI p.2.2))]) (fun p=>mkH []) (fun p=>p.1) ((9,1,m.u)) (⟨(Akq c15 hns c37 c42).symm,by simp only;omega,by simp only;omega,by simp only;omega,by simp only;omega,by show 2*m.u≤7560*2 ^ 9;omega⟩) ?_ ?_ ?_
 exact fz ⟨sr,sr,sr,trivial⟩
 exact HSub.nil
 intro p hk1
 obtain ⟨hgo,hk1,hkf,hq1,hq2,hq3⟩:=hk1
 refine zs<|zr<|zm R R<|zp (F5 R R R (by omega) (by omega))<|zp (Az R R R)<|zm R R<|?_
 refine XL.dec 53 R (fun g53=> ?_) (fun g53=> ?_)
 refine zm R R<|zp (G2 R R R (by omega) (by omega) (by omega))<|zp (E4 R R R)<|zq R R R<|zn<|?_
 refine zd R (fun c57=> ?_) (fun c57=> ?_)
 obtain ⟨f,hf,hpw⟩:=Uy hq3 c57
 rw [hf] at hgo hkf
 refine zi<|zs<|Ai<|zr<|zm R R<|zp (G2 R R R (by omega) (by omega) (by omega))<|za R R<|znr<|zm R R<|zm R R<|zp (F5 R R R (by omega) (by omega))<|zp (Az R R R)<|zn<|?_
 refine zd R (fun c65=> ?_) (fun c65=> ?_)
 exact zr<|zm R R<|zp (Ak R R R (by omega) (by omega))<|za R R<|zn<|zt<|z1 R R (rI ((Sv ⟨g53,c57⟩ c65).symm.trans hgo))
 refine zi<|Af (by kernel_rfl)<|zm R R<|zp (Ak R R R (by omega) (by omega))<|za R R<|zn<|?_
 exact Al ((f,p.2.1+1,p.2.2 / 2)) (⟨by rw [←Qp ⟨g53,c57⟩ c65];exact hgo,by simp only;omega,by simp only;omega,by simp only;omega,by simp only;omega,by simp only;omega⟩) (by simp only;omega) (fz ⟨sr,sr,sr,trivial⟩) (HSub.nil)
 exact At<|zr<|za R R<|zn<|zt<|z1 R R (rI ((K3 (fun k=>c57 k.2)).symm.trans hgo))
 exact zk 3 R<|zq R R R<|zn<|Bb (by kernel_rfl) R<|At<|zr<|za R R<|zn<|zt<|z1 R R (rI ((K3 (fun k=>g53 k.1)).symm.trans hgo))
 refine zk 4 R<|zq R R R<|zm R R<|zk 5 R<|zq R R R<|za R R<|zn<|Bb (by kernel_rfl) R<|zs<|?_
 have hns:¬((2*(a % m.len)=m.len∧(m.groups.length:Int) % 2=0)∧Hc m.groups=He m.groups):=by first|exact fun k=>c18 k.2|exact fun k=>g30 k.1.2|exact fun k=>g24 k.1.1
 refine Af (by kernel_rfl)<|zp (Ae (s':= .d (.agg (Me.c m))) (Ac (Ad R R Ci R lb)) (by kernel_rfl))<|XL.call1 R R (Qn _ (by assumption)) R<|zm R R<|XL.call1 R R (Mr _ _) R<|za R R<|zn<|?_
 refine zd R (fun c37=> ?_) (fun c37=> ?_)
 exact zr<|za R R<|zn<|zt<|z1 R R (rI (Aks c15 hns c37))
 refine zr<|zm R R<|zp (Ae (s':= .d (.agg (Me.c m))) (Ac (Ad R R Ci R lb)) (by kernel_rfl))<|XL.call1 R R (I3 _ (by assumption)) R<|zp (F5 R R R (by omega) (by omega))<|zp (Az R R R)<|za R R<|zn<|?_
 refine zd R (fun c42=> ?_) (fun c42=> ?_)
 exact zr<|za R R<|zn<|zt<|z1 R R (rI (Akr c15 hns c37 c42))
 refine zi<|zs<|zr<|zp (Ae (s':= .d (.agg (Me.c m))) (Ac (Ad R R Ci R lb)) (by kernel_rfl))<|XL.call1 R R (I3 _ (by assumption)) R<|za R R<|za R R<|zn<|Ai<|?_
 refine Av (α:=Nat × Int × Int) (fun p=>I5 (a % m.len) p.1 p.2.1 p.2.2=m.level a∧1≤p.2.1∧p.2.1+p.1=10∧1≤p.2.2∧p.2.2≤1935360∧2*p.2.2≤7560*2 ^ p.1) (fun p=>mkF [(5, .d (dI (a % m.len))),(7, .d (dI p.2.1)),(8, .d (dI p.2.2))]) (fun p=>mkH []) (fun p=>p.1) ((9,1,m.u)) (⟨(Akq c15 hns c37 c42).symm,by simp only;omega,by simp only;omega,by simp only;omega,by simp only;omega,by show 2*m.u≤7560*2 ^ 9;omega⟩) ?_ ?_ ?_
 exact fz ⟨sr,sr,sr,trivial⟩
 exact HSub.nil
 intro p hk1
 obtain ⟨hgo,hk1,hkf,hq1,hq2,hq3⟩:=hk1
 refine zs<|zr<|zm R R<|zp (F5 R R R (by omega) (by omega))<|zp (Az R R R)<|zm R R<|?_
 refine XL.dec 53 R (fun g53=> ?_) (fun g53=> ?_)
 refine zm R R<|zp (G2 R R R (by omega) (by omega) (by omega))<|zp (E4 R R R)<|zq R R R<|zn<|?_
 refine zd R (fun c57=> ?_) (fun c57=> ?_)
 obtain ⟨f,hf,hpw⟩:=Uy hq3 c57
 rw [hf] at hgo hkf
 refine zi<|zs<|Ai<|zr<|zm R R<|zp (G2 R R R (by omega) (by omega) (by omega))<|za R R<|znr<|zm R R<|zm R R<|zp (F5 R R R (by omega) (by omega))<|zp (Az R R R)<|zn<|?_
 refine zd R (fun c65=> ?_) (fun c65=> ?_)
 exact zr<|zm R R<|zp (Ak R R R (by omega) (by omega))<|za R R<|zn<|zt<|z1 R R (rI ((Sv ⟨g53,c57⟩ c65).symm.trans hgo))
 refine zi<|Af (by kernel_rfl)<|zm R R<|zp (Ak R R R (by omega) (by omega))<|za R R<|zn<|?_
 exact Al ((f,p.2.1+1,p.2.2 / 2)) (⟨by rw [←Qp ⟨g53,c57⟩ c65];exact hgo,by simp only;omega,by simp only;omega,by simp only;omega,by simp only;omega,by simp only;omega⟩) (by simp only;omega) (fz ⟨sr,sr,sr,trivial⟩) (HSub.nil)
 exact At<|zr<|za R R<|zn<|zt<|z1 R R (rI ((K3 (fun k=>c57 k.2)).symm.trans hgo))
 exact zk 3 R<|zq R R R<|zn<|Bb (by kernel_rfl) R<|At<|zr<|za R R<|zn<|zt<|z1 R R (rI ((K3 (fun k=>g53 k.1)).symm.trans hgo))
def Fd (m:Me) (a:Int):Nat→Int × Int × Bool
 |0=>(0,0,false)
 |k+1=>if (Fd m a k).2.2=false∨m.level (a+7560*(k+1))<(Fd m a k).2.1 then (a+7560*(k+1),m.level (a+7560*(k+1)),true) else Fd m a k
def Dz (a b:Int):Nat:=((b - a - 1) / 7560).toNat
def Me.strong (m:Me) (a b:Int):Int × Int × Bool:=Fd m a (Dz a b)
theorem Iz {m:Me} {a:Int} {k:Nat} (h:(Fd m a k).2.2=false∨m.level (a+7560*(k+1))<(Fd m a k).2.1):Fd m a (k+1)=(a+7560*(k+1),m.level (a+7560*(k+1)),true):=by rw [Fd,if_pos h]
theorem Uo {m:Me} {a:Int} {k:Nat} (h:(Fd m a k).2.2=true) (h2:¬m.level (a+7560*(k+1))<(Fd m a k).2.1):Fd m a (k+1)=Fd m a k:=by rw [Fd,if_neg (by rw [h];exact fun k=>k.elim (fun k=>by cases k) h2)]
theorem D4 {b:Bool} (h:(!b)=true):b=false:=by simpa using h
theorem Hx {b:Bool} (h:(!b)=false):b=true:=by simpa using h
theorem Af4 (m:Me) (a b:Int) (h:Mok m) (ha:0≤a∧a≤4398046511104) (hb:b≤4398046511104):XC Tryz.prog 142 [.agg (Me.c m), .v (.int .i64 a), .v (.int .i64 b)] (fun r=>r= .tup [dI (m.strong a b).1,dI (m.strong a b).2.1,dB (m.strong a b).2.2]):=by
 have hN:Dz a b=((b - a - 1) / 7560).toNat:=rfl
 refine Ao Aan Tryz.func142 R R lb<|zr<|XL.step R (As 3 (l:= [.d (dI m.count), .d (dI m.unit), .d (dI m.g0), .d (dI m.g1), .d (dI m.g2), .d (dI m.g3), .d (dI m.g4), .d (dI m.g5)]) R R (by kernel_rfl))<|za R R<|za R R<|za R R<|zn<|zs<|zr<|zm R R<|zp (Ak R R R (by omega) (by omega))<|za R R<|zn<|Ai<|?_
 refine Av (α:=Nat) (fun k=>k≤Dz a b) (fun k=>mkF [(2, .d (dI b)),(3, .ptr 3 0 0),(6, .d (dI (Fd m a k).1)),(7, .d (dI (Fd m a k).2.1)),(8, .d (dB (Fd m a k).2.2)),(9, .d (dI (a+7560*(k+1))))]) (fun k=>mkH [(3, .box ((Me.c m).map S.d))]) (fun k=>Dz a b - k) (0) (Nat.zero_le _) ?_ ?_ ?_
 exact fz ⟨sr,sr,sr,sr,sr,sr,trivial⟩
 exact gz ⟨R,trivial⟩
 intro k hk0
 refine zs<|zr<|zm R R<|zm R R<|zp (Aq R R R)<|zn<|?_
 refine zd R (fun c15=> ?_) (fun c15=> ?_)
 have hlt:k<Dz a b:=by omega
 have hlv:=Akt m (a+7560*(k+1))
 refine zi<|zs<|Ai<|zr<|zp (Ae (s':= .d (.agg (Me.c m))) (Ac (Ad R R Ci R lb)) (by kernel_rfl))<|zm R R<|XL.call1 R R (Qm _ _ (by assumption) (by omega)) R<|za R R<|znr<|zm R R<|zp (Cu R R)<|zm R R<|?_
 refine XL.bool 23 R (fun g23=> ?_) (fun g23=> ?_)
 refine zk 3 R<|zq R R R<|zn<|An (by kernel_rfl) R<|Af (by kernel_rfl)<|zm R R<|zm R R<|za R R<|za R R<|za R R<|zn<|Af (by kernel_rfl)<|zm R R<|zp (Ak R R R (by omega) (by omega))<|?_
 refine za R R<|zn<|?_
 exact Al (k+1) (by omega) (by omega) (fz ⟨sr,sr, .same (sI (by rw [Iz (.inl (D4 g23))])), .same (sI (by rw [Iz (.inl (D4 g23))])), .same (sB (by rw [Iz (.inl (D4 g23))])), .same (sI (by omega)),trivial⟩) (gz ⟨R,trivial⟩)
 refine zm R R<|zm R R<|zp (Aq R R R)<|zq R R R<|zn<|?_
 refine zd R (fun c27=> ?_) (fun c27=> ?_)
 refine Af (by kernel_rfl)<|zm R R<|zm R R<|za R R<|za R R<|za R R<|zn<|Af (by kernel_rfl)<|zm R R<|zp (Ak R R R (by omega) (by omega))<|za R R<|zn<|?_
 exact Al (k+1) (by omega) (by omega) (fz ⟨sr,sr, .same (sI (by rw [Iz (.inr c27)])), .same (sI (by rw [Iz (.inr c27)])), .same (sB (by rw [Iz (.inr c27)])), .same (sI (by omega)),trivial⟩) (gz ⟨R,trivial⟩)
 refine zi<|Af (by kernel_rfl)<|zm R R<|zp (Ak R R R (by omega) (by omega))<|za R R<|zn<|?_
 exact Al (k+1) (by omega) (by omega) (fz ⟨sr,sr, .same (sI (by rw [Uo (Hx g23) c27])), .same (sI (by rw [Uo (Hx g23) c27])), .same (sB (by rw [Uo (Hx g23) c27])), .same (sI (by omega)),trivial⟩) (gz ⟨R,trivial⟩)
 have hk:k=Dz a b:=by omega
 refine At<|zr<|zm R R<|zm R R<|zm R R<|za R R<|za R R<|za R R<|zn<|zt<|?_
 exact Ut R (RV.tmp R R) (RV.tmp R R) (RV.tmp R R) (by rw [hk];rfl)
end Go.Proofs.YtcihalbakenleaaGreat
