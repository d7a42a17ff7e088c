/- Part 10 of what the statements need: lemmas and walks. -/
import Derived.Lib.OwnBridge
import Derived.Test.YtaafemnkamfgnaaGreatVc9
set_option linter.unusedVariables false
set_option linter.unusedSimpArgs false
set_option linter.unusedSectionVars false
set_option maxRecDepth 20000
set_option maxHeartbeats 8000000
namespace Go.Proofs.YtaafemnkamfgnaaGreat
open Go.RowKit
open Go.Sort in
theorem Ak4 {zs:List Int} {c:Array Value} (h:zs.length≤c.size):(putCells (Value.int .i64) 0 zs.toArray c).toList.take zs.length=zs.map (Value.int .i64):=by
 apply List.ext_getElem?
 intro k
 rw [List.getElem?_take,List.getElem?_map]
 by_cases hk:k<zs.length
 ·rw [if_pos hk,Array.getElem?_toList,putCells,Array.getElem?_mapIdx,Array.getElem?_eq_getElem (by omega),Option.map_some,if_pos ⟨by omega,by simpa using hk⟩,List.getElem?_eq_getElem hk,Option.map_some]
  congr 2
  rw [Nat.sub_zero,getElem!_pos _ k (by simpa using hk)]
  simp
 ·rw [if_neg hk,List.getElem?_eq_none (by omega)];rfl
abbrev ixs (zs:List Int):List (List D):=zs.map iv
theorem Afm {E:Env} {H:Hp} {β:Bt} {h:Xh} {w:World} {i:Nat} {zs:List Int} {L:Loc} (hs:Sim E H β h w) (hi:h i=some (.row 3 1 (ixs zs))) (hL:β i=some L):
  (L.v= .slice none 0 0∧zs= [])∨∃cap cur,L.v= .slice (some ⟨L.b,0,none⟩) zs.length cap∧L.sz=1∧E.w.heap.size≤L.b∧w.heap[L.b]? =some (.cells cur 3 (0,0))∧zs.length≤cap∧cap≤maxLen∧cur.size=cap∧cur.toList.take zs.length=zs.map (Value.int .i64):=by
 obtain ⟨hsz,hz,hvb,us,hown,hone,hcells⟩:=hs.obj i _ L hi hL
 have hn:(ixs zs).length=zs.length:=by simp [ixs]
 rw [hn] at hown
 rcases hown.2 with ⟨e1,e2⟩|⟨g,cap,cur,e1,e2,e3,e4,e5,e6,e7⟩
 ·exact .inl ⟨e1,List.length_eq_zero_iff.1 e2⟩
 ·have hg:=hvb g (by rw [e1];rfl)
  subst hg
  rw [Nat.mul_one] at e6 e7
  refine .inr ⟨cap,cur,e1,hsz,e2,e3,e4,e5,e6, ?_⟩
  rw [e7]
  have hl:us.length=zs.length:=by rw [hown.1,Nat.mul_one]
  apply List.ext_getElem?
  intro k
  by_cases hk:k<zs.length
  ·obtain ⟨u,h1,h2⟩:=hcells k 0 [dI zs[k]] (dI zs[k]) (by simp [ixs,hk];rfl) rfl
   rw [Nat.mul_one,Nat.add_zero] at h1
   rw [h1,P7 h2]
   simp [hk]
  ·rw [List.getElem?_eq_none (by omega),List.getElem?_eq_none (by simp;omega)]
open Go.Sort in
theorem Sim.putI {E:Env} {H:Hp} {β:Bt} {h:Xh} {w:World} {i q:Nat} {zs ys:List Int} {L:Loc} {cap:Nat} {cur:Array Value} (hs:Sim E H β h w) (hi:h i=some (.row 3 1 (ixs zs))) (hL:β i=some L)
  (hv:L.v= .slice (some ⟨L.b,0,none⟩) zs.length cap) (hb:E.w.heap.size≤L.b) (hc:w.heap[L.b]? =some (.cells cur 3 (0,0))) (hn:zs.length≤cap) (hm:cap≤maxLen) (hz:cur.size=cap) (hl:ys.length=zs.length):
  Sim E H β (h.set i (.row 3 1 (ixs ys))) (putRow (Value.int .i64) (Sort.ahead w q) L.b 0 ys.toArray):=by
 obtain ⟨hsz,_,hvb,_⟩:=hs.obj i _ L hi hL
 have s2:Sim E H β h (Sort.ahead w q):=hs.call ⟨rfl,rfl,rfl,Nat.le_refl _,fun _ _=>rfl⟩ (Hp.le.refl _) (fun b o u e=> .inl e) hs.imm
 have hcell:(putRow (Value.int .i64) (Sort.ahead w q) L.b 0 ys.toArray).heap[L.b]? =some (.cells (putCells (Value.int .i64) 0 ys.toArray cur) 3 (0,0)):=by
  show (w.heap.modify L.b _)[L.b]? =_
  rw [Array.getElem?_modify,if_pos rfl,hc];rfl
 have hcs:(putCells (Value.int .i64) 0 ys.toArray cur).size=cap:=by simp [putCells,hz]
 refine s2.turn hi hL rfl (Go.Lib.below_putRow hs.below hb) (fun b hb'=> ?_) ?_
 ·show (w.heap.modify L.b _)[b]? =w.heap[b]?
  rw [Array.getElem?_modify,if_neg]
  intro e
  exact hb' (by simp [XO.blk,hv,Value.ownBlock,e])
 ·have hlen:(ixs ys).length=zs.length:=by simp [ixs,hl]
  refine ⟨hsz,fun x hx=> ?_,hvb,ys.map (Value.int .i64),⟨by simp [ixs], .inr ⟨L.b,cap,_,by rw [hlen];exact hv,hb,hcell,by rw [hlen];exact hn,hm,by rw [Nat.mul_one];exact hcs, ?_⟩⟩,fun u hu=> ?_,fun k j x d hk hj=> ?_⟩
  ·obtain ⟨z,_,rfl⟩:=List.mem_map.1 hx;rfl
  ·rw [show (ixs ys).length*1=ys.length by simp [ixs]]
   exact Ak4 (by omega)
  ·obtain ⟨z,_,rfl⟩:=List.mem_map.1 hu;rfl
  ·rw [ixs,List.getElem?_map] at hk
   cases hy:ys[k]? with
   |none=>rw [hy] at hk;cases hk
   |some z=>
    rw [hy] at hk;cases hk
    match j with
    |0=>cases hj;exact ⟨.int .i64 z,by rw [Nat.mul_one,Nat.add_zero,List.getElem?_map,hy];rfl, .v _⟩
    |j+1=>simp [iv] at hj
open Go.Sort in
theorem Sim.grow {E:Env} {H:Hp} {β:Bt} {h:Xh} {w:World} (hs:Sim E H β h w) (os:Array Obj):Sim E H β h (Go.Sort.grow w os):=by
 have hb:Below w.heap.size w (Go.Sort.grow w os):=⟨rfl,rfl,rfl,by simp,fun k hk=>by simp only [Go.Sort.grow];rw [Array.getElem?_append_left hk]⟩
 exact hs.call hb (Hp.le.refl _) (fun b o u e=> .inl e) (hs.imm.below hb)
theorem Xb {w:World} {b:Nat} {cur:Array Value} {zs:List Int} (hc:w.heap[b]? =some (.cells cur 3 (0,0))) (ht:cur.toList.take zs.length=zs.map (Value.int .i64)):Go.Sort.Holds (Value.int .i64) w b 0 zs.toArray:=fun j hj=>by
 have hj':j<zs.length:=by simpa using hj
 have:cur[j]? =some (.int .i64 zs[j]):=by
  have h1:(cur.toList.take zs.length)[j]? =some (.int .i64 zs[j]):=by rw [ht];simp [hj']
  rw [List.getElem?_take,if_pos hj'] at h1
  simpa using h1
 refine ⟨?_,by simp [World.frozen?,hc]⟩
 simp [World.cell?,hc,this,hj']
def srt (zs:List Int):List Int:=zs.mergeSort fun x y=>decide (x≤y)
theorem Ae5 (zs:List Int):(srt zs).length=zs.length:=List.length_mergeSort _
theorem Ae4:srt []= []:=by simp [srt]
section
variable {n:Nat} {f:Fr} {h:Xh} {o:Oper} {ops rest:List Oper} {K:C5} {tys:Array TypeId}
theorem Apl {i:Nat} {x:Operand} {zs:List Int} (ho:o.op= .call {callee:= .value (.func 58),args:= #[x],argTypes:=tys}) (hx:ev f x= .own i) (hi:h i=some (.row 3 1 (ixs zs))) (hlen:zs.length<4611686018427387904):
  Step Tryz.prog n o f h .any f (h.set i (.row 3 1 (ixs (srt zs)))):=by
 intro E H β a w hs hfv hop
 have g:=hop x (by rw [ho];simp [Op.operands,Call.operands])
 rw [hx] at g
 obtain ⟨L,hL,hv⟩:=F4 g
 have fin:∀w',Sim E H β (h.set i (.row 3 1 (ixs (srt zs)))) w'→∃H' β' u,a.put o.dst (.tuple #[])=a.put o.dst u∧Sim E H' β' (h.set i (.row 3 1 (ixs (srt zs)))) w'∧FV n H' β' a f∧VS H' β' u .any:=fun w' k=>⟨H,β,_,rfl,k,hfv, .any _⟩
 unfold Oper.wp
 rw [Nt ho Aec,show (#[x]:Array Operand).map a.eval= #[a.eval x] by simp]
 rw [hv]
 rcases Afm hs hi hL with ⟨e1,rfl⟩|⟨cap,cur,e1,_,e2,e3,e4,e5,e6,e7⟩
 ·rw [e1]
  refine (Tryz.slices_Sort_int_none none 0 w).mono ?_
  rintro e w' ⟨rfl,rfl⟩
  exact fin _ (by rw [Ae4,Xh.set_self hi];exact hs)
 ·rw [e1]
  refine (Tryz.slices_Sort_int L.b 0 cap zs w (Xb e3 e7) (Array.getElem?_eq_some_iff.1 e3).1 hlen).mono ?_
  rintro e w' ⟨rfl,q,os,rfl⟩
  exact fin _ ((hs.putI hi hL e1 e2 e3 e4 e5 e6 (Ae5 zs)).grow os)
theorem Xx {h:Xh} {i:Nat} {o o2:XO}:((h.set i o).kill i).set i o2=(h.kill i).set i o2:=by
 funext j
 by_cases e:i=j
 ·subst e;rw [Xh.set_same,Xh.set_same]
 ·rw [Xh.set_ne _ _ e,Xh.set_ne _ _ e,Xh.kill_ne _ e,Xh.kill_ne _ e,Xh.set_ne _ _ e]
def cpt (zs:List Int):List Int:=Go.Lib.compact zs
theorem Af1 (zs:List Int):(cpt zs).length≤zs.length:=Go.Lib.compact_length_le zs
theorem Af0:cpt []= []:=by have:=Af1 [];exact List.length_eq_zero_iff.1 (by simpa using this)
theorem Sim.cutR {E:Env} {H:Hp} {β:Bt} {h:Xh} {w:World} {i m c:Nat} {ty:TypeId} {sz:Nat} {r:List (List D)} {L:Loc} {A:Option Addr} (hs:Sim E H β h w) (hi:h i=some (.row ty sz r)) (hL:β i=some L) (hv:L.v= .slice A r.length c) (hm:m≤r.length):
  Sim E H (β.set i (some ⟨.slice A m c,L.b,sz,noB⟩)) ((h.kill i).set i (.row ty sz (r.take m))) w:=by
 obtain ⟨h1,hz,hvb,us,hown,hone,hc⟩:=hs.obj i _ L hi hL
 have hn2:(r.take m).length=m:=by rw [List.length_take];omega
 have hblk:(Value.slice A m c).ownBlock=L.v.ownBlock:=by rw [hv];cases A<;>rfl
 have hmul:m*sz≤r.length*sz:=Nat.mul_le_mul_right _ hm
 refine hs.lay i _ _ (fun b hb=>⟨_,L,hi,hL, ?_⟩) ⟨rfl,fun x hx=>hz x (List.mem_of_mem_take hx),fun b hb=>hvb b (by rw [←hblk];exact hb),us.take (m*sz),⟨?_, ?_⟩,fun u hu=>hone u (List.mem_of_mem_take hu),fun k j x d hk hj=> ?_⟩
 ·simp only [XO.blk] at hb ⊢
  rw [←hblk];exact hb
 ·rw [hn2,List.length_take,hown.1];omega
 ·rw [hn2]
  rcases hown.2 with ⟨e1,e2⟩|⟨g,cap,cur,e1,e2,e3,e4,e5,e6,e7⟩
  ·rw [hv] at e1
   injection e1 with q1 q2 q3
   subst q1 q3
   have:m=0:=by omega
   subst this
   exact .inl ⟨rfl,rfl⟩
  ·rw [hv] at e1
   injection e1 with q1 q2 q3
   subst q1 q3
   refine .inr ⟨g,c,cur,rfl,e2,e3,by omega,e5,e6, ?_⟩
   rw [←e7,List.take_take,Nat.min_eq_left hmul]
 ·have hkm:k<m:=by have:=(List.getElem?_eq_some_iff.1 hk).1;rw [List.length_take] at this;omega
  rw [List.getElem?_take,if_pos hkm] at hk
  obtain ⟨u,h5,h6⟩:=hc k j x d hk hj
  have hjs:j<sz:=by have:=(List.getElem?_eq_some_iff.1 hj).1;rw [hz x (List.mem_of_getElem? hk)] at this;exact this
  have h7:(k+1)*sz≤m*sz:=Nat.mul_le_mul_right _ hkm
  rw [Nat.add_mul] at h7
  exact ⟨u,by rw [List.getElem?_take,if_pos (by omega)];exact h5,h6⟩
theorem Sim.cutI {E:Env} {H:Hp} {β:Bt} {h:Xh} {w:World} {i m c:Nat} {zs:List Int} {L:Loc} {A:Option Addr} (hs:Sim E H β h w) (hi:h i=some (.row 3 1 (ixs zs))) (hL:β i=some L) (hv:L.v= .slice A zs.length c) (hm:m≤zs.length):
  Sim E H (β.set i (some ⟨.slice A m c,L.b,1,noB⟩)) ((h.kill i).set i (.row 3 1 (ixs (zs.take m)))) w:=by
 have:=hs.cutR hi hL (by rw [List.length_map];exact hv) (by rw [List.length_map];exact hm)
 rw [←List.map_take] at this
 exact this
theorem Agp {i:Nat} {x:Operand} {zs:List Int} (ho:o.op= .call {callee:= .value (.func 59),args:= #[x],argTypes:=tys}) (hx:ev f x= .own i) (hi:h i=some (.row 3 1 (ixs zs))) (hlen:zs.length≤9223372036854775807):
  Step Tryz.prog n o f h (.own i) (Eg f i) ((h.kill i).set i (.row 3 1 (ixs (cpt zs)))):=by
 intro E H β a w hs hfv hop
 have g:=hop x (by rw [ho];simp [Op.operands,Call.operands])
 rw [hx] at g
 obtain ⟨L,hL,hv⟩:=F4 g
 unfold Oper.wp
 rw [Nt ho Aeb,show (#[x]:Array Operand).map a.eval= #[a.eval x] by simp]
 rw [hv]
 rcases Afm hs hi hL with ⟨e1,rfl⟩|⟨cap,cur,e1,_,e2,e3,e4,e5,e6,e7⟩
 ·rw [e1]
  refine (Tryz.slices_Compact_int_empty none 0 w).mono ?_
  rintro e w' ⟨rfl,rfl⟩
  have:=hs.cutI hi hL e1 (Nat.le_refl _)
  rw [Af0]
  exact ⟨H,_,_,rfl,this,hfv.kill i _,VS.own (Bt.set_same _ _ _)⟩
 ·rw [e1]
  refine (Tryz.slices_Compact_int L.b 0 cap zs w (Xb e3 e7) hlen e4).mono ?_
  rintro e w' ⟨rfl,q,rfl⟩
  have hl:=Af1 zs
  have hl2:(Go.Lib.compact zs++List.replicate (zs.length - (Go.Lib.compact zs).length) 0).length=zs.length:=by unfold cpt at hl;simp;omega
  have k:=(hs.putI (q:=q) hi hL e1 e2 e3 e4 e5 e6 hl2).cutI (m:=(cpt zs).length) (Xh.set_same _ _ _) hL (by rw [hl2];exact e1) (by rw [hl2];exact hl)
  rw [Xx,cpt,List.take_left] at k
  exact ⟨H,_,_,rfl,k,hfv.kill i _,VS.own (Bt.set_same _ _ _)⟩
end
def Aai (m:Ms):List Int:=cpt (srt ((slL m).map (·.on)))
theorem Atg {m:Ms} (h:slE m≠0):Aai m= []:=by rw [Aai,slL,if_pos h];simp [Ae4,Af0]
theorem r2i {l l':List Int} {a b:Int} (h:l=l') (h2:a=b):D.tup [.sl 1 (l.map iv),dI a]= .tup [.sl 1 (l'.map iv),dI b]:=by rw [h,h2]
theorem Apn {m:Ms} (hF:m.fit):(slL m).length≤3000000000:=by
 unfold slL
 split
 ·exact Nat.zero_le _
 ·have:=Aah (L:=mlV m.h.m m.h.len) (l:=m.cells) (fun c hc=>(hF.c c hc).voices)
  have:=hF.cells
  omega
theorem Ahs (m:Ms) (hF:m.fit) (hE:m.evs):XC Tryz.prog 21 [.agg (Ms.c m)] (fun r=>r= .tup [.sl 1 ((Aai m).map iv),dI (slE m)]):=by
 have hsl:=Apn hF
 refine Al Aen Tryz.func21 R R lb<|zr<|?_
 refine XL.step R (Ao 1 (l:= [.d (dI m.h.site), .d (dI m.h.num), .d (dI m.h.m.count), .d (dI m.h.m.unit), .d (dI m.h.m.g0), .d (dI m.h.m.g1), .d (dI m.h.m.g2), .d (dI m.h.m.g3), .d (dI m.h.m.g4), .d (dI m.h.m.g5), .d (dI m.h.len), .d (dI m.h.fifths), .d (dB m.h.start), .d (dI m.h.fin), .d (dI m.h.ends), .d (dI m.h.jump), .d (dI m.h.labels), .d (dI m.h.swing), .d (dI m.h.brk), .d (.v (.string ⟨m.h.reh.toArray⟩)), .d (.sl 3 (m.tempi.map Tm.c)), .d (.sl 2 (m.cells.map Ce.c))]) R R (by kernel_rfl))<|?_
 refine za R R<|za R R<|znr<|zp (Ae (s':= .d (.agg (Ms.c m))) (Ac (Ad R R A1 R lb)) (by kernel_rfl))<|XL.call1 R R (Yr _ (by assumption) (by assumption)) R<|zm R R<|zp (Ax R R R)<|zp (Ax R R R)<|za R R<|za R R<|zn<|zs<|zr<|zm R R<|?_
 refine zp (A5 R R R)<|zn<|?_
 refine zd R (fun c15=> ?_) (fun c15=> ?_)
 refine zr<|zm R R<|za R R<|za R R<|zn<|zt<|?_
 exact Az R (RV.nil (sz:=1) R R) (RV.tmp R R) (r2i (Atg (by assumption)).symm R)
 refine zi<|zr<|za R R<|zn<|zs<|zr<|zm R R<|XL.len R R R Tryz.underlying42 fun hl18=>zm R R<|zn<|Ah<|D6 7801 6 3 1 R<|?_
 refine A0 (α:=Nat) (fun k=>k≤(slL m).length) (fun k=>mkF [(2, .d (.v (.slice none 0 0))),(3, .d (dI 0)),(6, .own 7801),(17, .d (.sl 5 ((slL m).map Slt.c))),(18, .d (dI (slL m).length)),(19, .d (dI k))]) (fun k=>mkH [(7801, .row 3 1 ((((slL m).take k).map (·.on)).map iv))]) (fun k=>(slL m).length - k) (0) (Nat.zero_le _) ?_ ?_ ?_
 exact fz ⟨sr,sr,sr,sr,sr,sr,trivial⟩
 exact gz ⟨R,trivial⟩
 intro k hk0
 refine zr<|zp (Au R R R)<|zn<|zs<|?_
 refine zd R (fun c20=> ?_) (fun c20=> ?_)
 have hk0a:k<(slL m).length:=by omega
 obtain ⟨x0,hx0⟩:=Av hk0a
 refine zi<|zs<|Ah<|zr<|zp (At R R R Aor hx0)<|zp (Ae (s':= .d (.agg (Slt.c x0))) (A6 R R Ak8 lb) (by kernel_rfl))<|XL.step R (Ap 8 (l:= [.d (dI 0), .d (dI 0), .d (dI 0), .d (dI 0), .d (dI 0)]) R Mq (by kernel_rfl))<|?_
 refine XL.step R (Af (l':= [.d (dI x0.staff), .d (dI x0.voice), .d (dI x0.ev), .d (dI x0.on), .d (dI x0.off)]) R R R R Ago R lb (by kernel_rfl))<|zng<|zp (Ak R (by conv=>lhs;whnf))<|?_
 refine zp (Aa R R Ana)<|zp (Ab R R Ai R R)<|XL.step R (Bo 26 R Tryz.underlying45 Fc H5 R R (by omega) (by omega))<|XL.step R (A3 R Q8 (.own R) (Src.own R) (by unfold maxLen;simp;omega) (by simp;omega))<|zp (Ar R (by conv=>lhs;whnf))<|?_
 refine zn<|Ag (by kernel_rfl)<|zp (An R R R (by omega) (by omega))<|zm R R<|zn<|?_
 exact Am (k+1) (by omega) (by omega) (fz ⟨sr,sr,sr,sr,sr,sr,trivial⟩) (gz ⟨Hc (a:=x0.on) R (by rw [By hx0,List.map_append];rfl),trivial⟩)
 have hk0b:k=(slL m).length:=by omega
 refine As<|zr<|zp (Ak R (by conv=>lhs;whnf))<|?_
 refine XL.step R (Apl (zs:=((slL m).take k).map (·.on)) R R R (by rw [List.length_map,List.length_take];omega))<|znr<|zp (Ak R (by conv=>lhs;whnf))<|?_
 refine XL.step R (Agp (zs:=srt (((slL m).take k).map (·.on))) R R R (by rw [Ae5,List.length_map,List.length_take];omega))<|zp (Ar R (by conv=>lhs;whnf))<|?_
 refine za R R<|zn<|zt<|B9 (i:=7801) R<|?_
 exact Az R (RV.tmp R R) (RV.tmp R R) (r2i (by rw [hk0b,List.take_length];rfl) (by omega))
end Go.Proofs.YtaafemnkamfgnaaGreat
namespace Go.Proofs.YtaafemnkamfgnaaGreat
open Go.RowKit
inductive C3 where
 |bf|fr|af|fl|ff|mu|st
 deriving DecidableEq
def OpF (P:Program) (n:Nat) (ops:Array Oper) (o:Oper) (f:Fr) (h1:Xh) (s:S):Prop:=
 (Bp ops f n o.guard=some true∧Acz P o (ev f) h1 [] s)∨(Bp ops f n o.guard=some false∧s= .d (.v undef))
structure FOK (P:Program) (n:Nat) (ops:Array Oper) (κ:S→S) (hA hB hC:Xh) (o:Oper) (fA fB:Fr) (c:C3) (sA sB:S):Prop where
 a:(c= .bf∨c= .fr∨c= .ff)→OpF P n ops o fA hA sA∧sB=κ sA
 b:(c= .af∨c= .fr∨c= .fl∨c= .ff)→OpF P n ops o fB hB sB
 l:(c= .fl∨c= .ff)→OpF P n ops o fB hC sB
 m:c= .mu→Bp ops fA n o.guard=some true∧Ju P n o fA hA 987654 sB κ hB
 s:c= .st→Bp ops fB n o.guard=some true∧Ju P n o fB hB 987654 sB id hC
inductive ChF (P:Program) (n:Nat) (ops:Array Oper) (κ:S→S) (hA hB hC:Xh):List Oper→Fr→Fr→List C3→List S→List S→Fr→Prop where
 |nil (fA fB:Fr):ChF P n ops κ hA hB hC [] fA fB [] [] [] fB
 |step {o:Oper} {rest:List Oper} {fA fB f':Fr} {c:C3} {sA sB:S} {C:List C3} {LA LB:List S} (hok:FOK P n ops κ hA hB hC o fA fB c sA sB) (hr:ChF P n ops κ hA hB hC rest (Bb fA o.dst sA) (Bb fB o.dst sB) C LA LB f'):
   ChF P n ops κ hA hB hC (o::rest) fA fB (c::C) (sA::LA) (sB::LB) f'
def noI (L:List S):List (List Nat × S):=L.map fun s=>([],s)
theorem Ru {L:List S} {k:Nat} {s:S} (h:L[k]? =some s):(noI L)[k]? =some ([],s):=by rw [noI,List.getElem?_map,h];rfl
theorem Ajl {L:List S} {k:Nat} {q:List Nat × S} (h:(noI L)[k]? =some q):L[k]? =some q.2∧q.1= []:=by
 rw [noI,List.getElem?_map] at h
 cases hl:L[k]? with
 |none=>rw [hl] at h;cases h
 |some s=>rw [hl] at h;cases h;exact ⟨rfl,rfl⟩
theorem ChF.ok {P:Program} {n:Nat} {ops:Array Oper} {κ:S→S} {hA hB hC:Xh} {l:List Oper} {fA fB f':Fr} {C:List C3} {LA LB:List S} (hc:ChF P n ops κ hA hB hC l fA fB C LA LB f'):
  C.length=l.length∧LA.length=l.length∧LB.length=l.length∧
  (∀k o c sA sB,l[k]? =some o→C[k]? =some c→LA[k]? =some sA→LB[k]? =some sB→FOK P n ops κ hA hB hC o (A7 fA l (noI LA) Dz k) (A7 fB l (noI LB) Dz k) c sA sB)∧A7 fB l (noI LB) Dz l.length=f':=by
 induction hc with
 |nil=>exact ⟨rfl,rfl,rfl,fun k o c qa qb e=>by simp at e,rfl⟩
 | @step o rest fA fB f' c sA sB C LA LB hok hr ih=>
  obtain ⟨i1,i2,i3,i4,i5⟩:=ih
  refine ⟨by simp [i1],by simp [i2],by simp [i3],fun k o' c' qa qb h1 h2 h3 h4=> ?_, ?_⟩
  ·cases k with
   |zero=>simp at h1 h2 h3 h4;subst h1 h2 h3 h4;exact hok
   |succ k=>
    have e1:noI (sA::LA)=([],sA)::noI LA:=rfl
    have e2:noI (sB::LB)=([],sB)::noI LB:=rfl
    rw [e1,e2,Fw,Fw];exact i4 k o' c' qa qb (by simpa using h1) (by simpa using h2) (by simpa using h3) (by simpa using h4)
  ·have e2:noI (sB::LB)=([],sB)::noI LB:=rfl
   rw [e2,List.length_cons,Fw];exact i5
def Aht (ops:Array Oper) (p p2:Nat) (C:List C3):Bool:=
 (List.range C.length).all fun k=>
  match C[k]? with
  |some .bf=>De ops 9 p k && De ops 9 p2 k
  |some .af=>De ops 9 k p && De ops 9 p2 k
  |some .fl=>De ops 9 k p
  |some .mu=>Nat.beq k p && De ops 9 p2 k
  |some .st=>Nat.beq k p2 && De ops 9 k p
  |some .fr=>De ops 9 p2 k
  |some .ff=>true
  |none=>true
section
variable (P:Program) (n:Nat) (ops:Array Oper) (pre:List Oper) (p p2:Nat) (fA fB:Fr) (hA hB hC:Xh) (LA LB:List S) (E:Env)
def An9 (listed:Array Bool) (a:Act) (w:World):Prop:=
 (listed.size=ops.size∧(∀j o e,ops[j]? =some o→listed.getD j false=true→e∈o.after→Region.binds .any e=true→listed.getD e.on false=true)∧∀k,pre.length≤k→listed.getD k false=false)∧
  ((listed.getD p false = false ∧ listed.getD p2 false = false ∧ ∃ H β, Sim E H β hA w ∧ FV n H β a (A7 fA pre (noI LA) (fun j => listed.getD j false) pre.length)) ∨
   (listed.getD p false=true∧listed.getD p2 false=false∧∃H β,Sim E H β hB w∧FV n H β a (A7 fB pre (noI LB) (fun j=>listed.getD j false) pre.length))∨
   (listed.getD p2 false = true ∧ ∃ H β, Sim E H β hC w ∧ FV n H β a (A7 fB pre (noI LB) (fun j => listed.getD j false) pre.length)))
end
theorem Aj4 {P:Program} {n:Nat} {ops:Array Oper} {pre:List Oper} {p p2:Nat} {fA fB:Fr} {hA hB hC:Xh} {LA LB:List S} {E:Env} {Q:Exit→Act→World→Prop} {κ:S→S} {C:List C3}
  (hops:∀j,j<pre.length→ops[j]? =pre[j]?) (hin:pre.all (inN n)=true) (hreg:Jz ops pre=true) (hf:∀t,fB t=κ (fA t)) (hCl:C.length=pre.length) (hAl:LA.length=pre.length) (hBl:LB.length=pre.length)
  (hok:∀k o c sA sB,pre[k]? =some o→C[k]? =some c→LA[k]? =some sA→LB[k]? =some sB→FOK P n ops κ hA hB hC o (A7 fA pre (noI LA) Dz k) (A7 fB pre (noI LB) Dz k) c sA sB)
  (hp:C[p]? =some .mu) (hp2:C[p2]? =some .st) (hcls:Aht ops p p2 C=true) {listed:Array Bool} {a:Act} {w:World} (hI:An9 n ops pre p p2 fA fB hA hB hC LA LB E listed a w) {i:Nat} (hi:i∈Region.ready .any ops listed) (hip0:i<pre.length):
  wpOp P ops Q i (fun a' w'=>An9 n ops pre p p2 fA fB hA hB hC LA LB E (listed.setIfInBounds i true) a' w') a w:=by
 obtain ⟨⟨hsz,hdown,hunp⟩,hcase⟩:=hI
 have hcl:∀k c,C[k]? =some c→match c with|C3.bf=>De ops 9 p k=true∧De ops 9 p2 k=true|C3.af=>De ops 9 k p=true∧De ops 9 p2 k=true|C3.fl=>De ops 9 k p=true|C3.mu=>k=p∧De ops 9 p2 k=true|C3.st=>k=p2∧De ops 9 k p=true|C3.ff=>True|C3.fr=>De ops 9 p2 k=true:=by
  intro k c hck
  unfold Aht at hcls
  have:=List.all_eq_true.1 hcls k (List.mem_range.2 (List.getElem?_eq_some_iff.1 hck).1)
  rw [hck] at this
  cases c with
  |mu=>simp only [Bool.and_eq_true] at this;exact ⟨Nat.eq_of_beq_eq_true this.1,this.2⟩
  |st=>simp only [Bool.and_eq_true] at this;exact ⟨Nat.eq_of_beq_eq_true this.1,this.2⟩
  |fr=>exact this
  |ff=>trivial
  |fl=>exact this
  |bf=>simpa [Bool.and_eq_true] using this
  |af=>simpa [Bool.and_eq_true] using this
 obtain ⟨hil,hunl,o,ho,hdeps⟩:=Fp hi
 have hil':i<pre.length:=hip0
 have hol:pre[i]? =some o:=by rw [←hops i hip0];exact ho
 obtain ⟨sA,hLA⟩:∃q,LA[i]? =some q:=⟨_,List.getElem?_eq_getElem (by omega)⟩
 obtain ⟨sB,hLB⟩:∃q,LB[i]? =some q:=⟨_,List.getElem?_eq_getElem (by omega)⟩
 obtain ⟨c,hC'⟩:∃q,C[i]? =some q:=⟨_,List.getElem?_eq_getElem (by omega)⟩
 have hunl':listed.getD i false=false:=by rw [←Hl true (by omega)];exact hunl
 have hdown':∀j o e,ops[j]? =some o→(fun j=>listed.getD j false) j=true→e∈o.after→Region.binds .any e=true→(fun j=>listed.getD j false) e.on=true:=fun j o e h1 h2 h3 h4=>hdown j o e (by simpa using h1) h2 h3 h4
 have hwl:∀d j,De ops (d+1) i j=true→listed.getD j false=true:=by
  intro d j hw
  unfold De at hw
  rw [ho] at hw
  simp only [List.any_eq_true,Bool.and_eq_true,Bool.or_eq_true] at hw
  obtain ⟨e,he,hb,h2⟩:=hw
  have hl:=hdeps e (by simpa using he) hb
  rcases h2 with h2|h2
  ·rw [←Nat.eq_of_beq_eq_true h2];exact hl
  ·exact C6 hdown' d e.on j h2 hl
 have hlo:∀t,t∈Cd ops o→∀j o',j<i→pre[j]? =some o'→o'.dst=some t→listed.getD j false=true:=by
  intro t ht j o' hj hj' hd
  exact hwl 2 j (Hk hreg hj hj' hol (by unfold Lp;rw [hd];simp [Hy ht]))
 have hhi:∀t,t∈Cd ops o→∀j o',i<j→pre[j]? =some o'→o'.dst=some t→listed.getD j false=false:=by
  intro t ht j o' hj hj' hd
  cases hlj:listed.getD j false with
  |false=>rfl
  |true=>
   have hw:=Hk hreg hj hol hj' (by unfold Lp;rw [hd];simp [Hy ht])
   have:=C6 hdown' 3 j i hw hlj
   rw [hunl'] at this;cases this
 have hcur:∀(f0:Fr) (L:List (List Nat × S)) t,t∈Cd ops o→A7 f0 pre L (fun j=>listed.getD j false) pre.length t=A7 f0 pre L Dz i t:=by
  intro f0 L t ht
  have h1:∀j o',i≤j→pre[j]? =some o'→o'.dst=some t→(fun j=>listed.getD j false) j=false:=by
   intro j o' hj hj' hd
   by_cases e:j=i
   ·subst e;exact hunl'
   ·exact hhi t ht j o' (by omega) hj' hd
  rw [Gy h1 pre.length (by omega),Lz (hlo t ht) i (Nat.le_refl _)]
 have hin':inN n o=true:=List.all_eq_true.1 hin o (List.mem_of_getElem? hol)
 have hoin:=hin'
 unfold inN at hoin
 rw [Bool.and_eq_true] at hoin
 have hopn:∀t,Operand.tmp t∈o.op.operands→t∈Cd ops o:=by
  intro t hx
  unfold Cd Oper.looksAt
  simp only [List.mem_append,List.mem_filterMap]
  exact .inr (.inl ⟨.tmp t,by simpa using hx,rfl⟩)
 have hev:∀(f0:Fr) (L:List (List Nat × S)),∀x∈o.op.operands,ev (A7 f0 pre L (fun j=>listed.getD j false) pre.length) x=ev (A7 f0 pre L Dz i) x:=by
  intro f0 L x hx
  cases x with
  |tmp t=>simp only [ev];exact hcur f0 L t (hopn t hx)
  |_=>rfl
 have hop:∀(f0:Fr) (L:List (List Nat × S)) (H:Hp) (β:Bt),FV n H β a (A7 f0 pre L (fun j=>listed.getD j false) pre.length)→∀x∈o.op.operands,VS H β (a.eval x) (ev (A7 f0 pre L Dz i) x):=by
  intro f0 L H β hfv x hx
  rw [←hev f0 L x hx]
  exact hfv.operands hin' x hx
 have hguard:∀(f0:Fr) (L:List (List Nat × S)) (H:Hp) (β:Bt),FV n H β a (A7 f0 pre L (fun j=>listed.getD j false) pre.length)→∀b,Bp ops (A7 f0 pre L Dz i) n o.guard=some b→Region.wanted o (yielded ops a.tmps)=b:=by
  intro f0 L H β hfv b hb
  refine Hn hfv ?_
  rw [←hb]
  unfold Bp
  cases hg:o.guard with
  |none=>rfl
  |some g=>
   obtain ⟨j,want⟩:=g
   simp only
   cases ht:(ops[j]?).bind (·.dst) with
   |none=>rfl
   |some t=>
    simp only
    have htn:t∈Cd ops o:=by
     unfold Cd Oper.looksAt
     rw [hg]
     simp only [List.mem_append]
     exact .inr (.inr (by rw [ht];simp))
    rw [hcur f0 L t htn]
 have hlisted':∀j,(listed.setIfInBounds i true).getD j false=if j=i then true else listed.getD j false:=by
  intro j
  by_cases e:j=i
  ·subst e
   simp [Array.getD_eq_getD_getElem?,show j<listed.size by omega]
  ·rw [if_neg e]
   simp [Array.getD_eq_getD_getElem?,Array.getElem?_setIfInBounds_ne (fun h=>e h.symm)]
 have hdown2:∀j o' e,ops[j]? =some o'→(listed.setIfInBounds i true).getD j false=true→e∈o'.after→Region.binds .any e=true→(listed.setIfInBounds i true).getD e.on false=true:=by
  intro j o' e hj hl he hb
  rw [hlisted'] at hl ⊢
  split
  ·rfl
  ·by_cases ej:j=i
   ·subst ej
    rw [ho] at hj;cases hj
    exact hdeps e he hb
   ·rw [if_neg ej] at hl
    exact hdown j o' e hj hl he hb
 have hslot:∀(f0:Fr) (L:List (List Nat × S)) (q:List Nat × S) (H':Hp) (β':Bt) (u:Value),L[i]? =some q→FV n H' β' a (A7 f0 pre L (fun j=>listed.getD j false) pre.length)→VS H' β' u q.2→FV n H' β' (a.put o.dst u) (A7 f0 pre L (fun j=>(listed.setIfInBounds i true).getD j false) pre.length):=by
  intro f0 L q H' β' u hLi hfv' hu
  have hp:=hfv'.put hu o.dst hoin.2
  refine ⟨hp.defers,hp.size,fun t ht=> ?_⟩
  have h1:=hp.slot t ht
  have hsame:∀j,j≠i→(fun j=>(listed.setIfInBounds i true).getD j false) j=(fun j=>listed.getD j false) j:=fun j hj=>by simp only;rw [hlisted',if_neg hj]
  by_cases hd:o.dst=some t
  ·have ht':t∈Cd ops o:=by unfold Cd;simp [hd]
   have e1:A7 f0 pre L (fun j=>(listed.setIfInBounds i true).getD j false) pre.length t=A7 f0 pre L (fun j=>(listed.setIfInBounds i true).getD j false) (i+1) t:=by
    refine Gy (fun j o' hj hj' hd'=> ?_) pre.length (by omega)
    show (listed.setIfInBounds i true).getD j false=false
    rw [hlisted',if_neg (by omega)]
    exact hhi t ht' j o' (by omega) hj' hd'
   have e2:A7 f0 pre L (fun j=>(listed.setIfInBounds i true).getD j false) (i+1) t=q.2:=by
    unfold A7
    rw [hol,hLi]
    have hb:(listed.setIfInBounds i true).getD i false=true:=by rw [hlisted',if_pos rfl]
    simp only [hb,cond_true,Bb,hd,Dx,Bl]
   have e3:Bb (A7 f0 pre L (fun j=>listed.getD j false) pre.length) o.dst q.2 t=q.2:=by rw [hd];simp only [Bb,Dx,Bl,cond_true]
   rw [e1,e2]
   rw [e3] at h1
   exact h1
  ·have e1:=Ky (f:=f0) (L:=L) (lst:=fun j=>listed.getD j false) (t:=t) hsame (fun o' h=>by rw [hol] at h;cases h;exact hd) pre.length
   have e3:Bb (A7 f0 pre L (fun j=>listed.getD j false) pre.length) o.dst q.2 t=A7 f0 pre L (fun j=>listed.getD j false) pre.length t:=by
    cases hdd:o.dst with
    |none=>rfl
    |some t'=>
     have:t'≠t:=fun e=>hd (by rw [hdd,e])
     simp only [Bb,Dx,Bv this,cond_false]
   rw [e1]
   rw [e3] at h1
   exact h1
 have hsz':(listed.setIfInBounds i true).size=ops.size:=by simpa using hsz
 have hunp2:∀k,pre.length≤k→(listed.setIfInBounds i true).getD k false=false:=fun k hk=>by rw [hlisted',if_neg (by omega)];exact hunp k hk
 have fok:=hok i o c _ _ hol hC' hLA hLB
 have hcls1:=hcl i c hC'
 have hpp2:p≠p2:=fun e=>by rw [e,hp2] at hp;cases hp
 have hbase:(listed.setIfInBounds i true).size=ops.size∧(∀j o e,ops[j]? =some o→(listed.setIfInBounds i true).getD j false=true→e∈o.after→Region.binds .any e=true→(listed.setIfInBounds i true).getD e.on false=true)∧∀k,pre.length≤k→(listed.setIfInBounds i true).getD k false=false:=⟨hsz',hdown2,hunp2⟩
 have keep:∀j,j≠i→(listed.setIfInBounds i true).getD j false=listed.getD j false:=fun j hj=>by rw [hlisted',if_neg hj]
 have hgB:(noI LB)[i]? =some ([],sB):=Ru hLB
 have hgA:(noI LA)[i]? =some ([],sA):=Ru hLA
 unfold wpOp
 rw [ho]
 simp only
 have cas:∀(f0:Fr) (L:List S) (s:S) (hX:Xh) (H:Hp) (β:Bt),L[i]? =some s→OpF P n ops o (A7 f0 pre (noI L) Dz i) hX s→Sim E H β hX w→FV n H β a (A7 f0 pre (noI L) (fun j=>listed.getD j false) pre.length)→
   ∀K:Act→World→Prop,(∀a' w',(∃H' β',Sim E H' β' hX w'∧FV n H' β' a' (A7 f0 pre (noI L) (fun j=>(listed.setIfInBounds i true).getD j false) pre.length))→K a' w')→
   ((Region.wanted o (yielded ops a.tmps)=true∧o.wp P a w K NoQ)∨(Region.wanted o (yielded ops a.tmps)=false∧K (a.put o.dst undef) w)):=by
  intro f0 L s hX H β hL hop' hsim hfv K hK
  rcases hop' with ⟨hw,hcalm⟩|⟨hw,hs0⟩
  ·refine .inl ⟨hguard f0 (noI L) H β hfv _ hw,D5 (hcalm E H β a w hsim (fun _ e=>by cases e) (hop f0 (noI L) H β hfv)) ?_⟩
   rintro a' w' ⟨H',β',u,rfl,k1,k2,k3,_,k5⟩
   exact hK _ _ ⟨H',β',k1,hslot f0 (noI L) ([],s) H' β' u (Ru hL) (hfv.mono k2 k3) k5⟩
  ·exact .inr ⟨hguard f0 (noI L) H β hfv _ hw,hK _ _ ⟨H,β,hsim,hslot f0 (noI L) ([],s) H β undef (Ru hL) hfv (by rw [hs0];exact .d (.v _))⟩⟩
 have fin:∀K:Act→World→Prop,(Region.wanted o (yielded ops a.tmps)=true∧o.wp P a w K NoQ)∨(Region.wanted o (yielded ops a.tmps)=false∧K (a.put o.dst undef) w)→
   if Region.wanted o (yielded ops a.tmps)=true then o.wp P a w K Q∨(o.asks P a w∧LetsOut Q) else K (a.put o.dst undef) w:=by
  intro K h
  rcases h with ⟨h1,h2⟩|⟨h1,h2⟩
  ·rw [if_pos h1];exact .inl (D5 h2 fun _ _ h=>h)
  ·rw [if_neg (by rw [h1];decide)];exact h2
 rcases hcase with ⟨hpn,hpn2,H,β,hsim,hfv⟩|⟨hpy,hpn2,H,β,hsim,hfv⟩|⟨hpy2,H,β,hsim,hfv⟩
 ·by_cases hip:i=p
  ·subst hip
   have:c= .mu:=by rw [hC'] at hp;cases hp;rfl
   subst this
   obtain ⟨k1,k2⟩:=fok.m rfl
   refine fin _ (.inl ⟨hguard fA (noI LA) H β hfv _ k1,D5 (k2 _ (hev fA (noI LA)) E H β a w hsim hfv (hfv.operands hin')) ?_⟩)
   rintro a' w' ⟨H',β',u,rfl,q1,q2,_,q3⟩
   refine ⟨hbase, .inr (.inl ⟨by rw [hlisted',if_pos rfl],by rw [keep p2 (fun e=>hpp2 e.symm)];exact hpn2,H',β',q1,hslot fB (noI LB) ([],sB) H' β' u hgB ⟨q2.defers,q2.size,fun t ht=> ?_⟩ q3⟩)⟩
   have hrel := T8 (κ := κ) (l := pre) (LA := noI LA) (LB := noI LB) (lst := fun j => listed.getD j false) (fA := fA) (fB := fB) hf (by rw [noI, noI, List.length_map, List.length_map]; omega) (fun k qa' qb' ha hb hlk => by
    obtain ⟨ha1,_⟩:=Ajl ha
    obtain ⟨hb1,_⟩:=Ajl hb
    have hkl:k<pre.length:=by rw [←hAl];exact (List.getElem?_eq_some_iff.1 ha1).1
    obtain ⟨c',hC2⟩:∃q,C[k]? =some q:=⟨_,List.getElem?_eq_getElem (by omega)⟩
    have hokk:=hok k _ c' _ _ (List.getElem?_eq_getElem hkl) hC2 ha1 hb1
    have hck:=hcl k c' hC2
    cases c' with
    |bf=>exact (hokk.a (.inl rfl)).2
    |fr=>exact (hokk.a (.inr (.inl rfl))).2
    |ff=>exact (hokk.a (.inr (.inr rfl))).2
    |mu=>
     have:k=i:=hck.1
     subst this
     rw [hunl'] at hlk;cases hlk
    |af=>
     have:=C6 hdown' 9 k i hck.1 hlk
     rw [hunl'] at this;cases this
    |fl=>
     have:=C6 hdown' 9 k i hck hlk
     rw [hunl'] at this;cases this
    |st=>
     have:=C6 hdown' 9 k i hck.2 hlk
     rw [hunl'] at this; cases this) pre.length t
   rw [hrel]
   exact q2.slot t ht
  ·have hnw:De ops 9 i p=true→False:=fun h=>by
    have:=hwl 8 p h
    rw [hpn] at this;cases this
   have hcase2:c= .bf∨c= .fr∨c= .ff:=by
    cases c with
    |bf=>exact .inl rfl
    |fr=>exact .inr (.inl rfl)
    |ff=>exact .inr (.inr rfl)
    |mu=>exact absurd hcls1.1 hip
    |af=>exact (hnw hcls1.1).elim
    |fl=>exact (hnw hcls1).elim
    |st=>exact (hnw hcls1.2).elim
   have hip2:i≠p2:=fun e=>by subst e;rw [hC'] at hp2;cases hp2;rcases hcase2 with h|h|h<;>cases h
   exact fin _ (cas fA LA sA hA H β hLA (fok.a hcase2).1 hsim hfv _ fun a' w' ⟨H',β',k1,k2⟩=>⟨hbase, .inl ⟨by rw [keep p (fun e=>hip e.symm)];exact hpn,by rw [keep p2 (fun e=>hip2 e.symm)];exact hpn2,H',β',k1,k2⟩⟩)
 ·have hip:i≠p:=fun e=>by subst e;rw [hunl'] at hpy;cases hpy
  by_cases hip2:i=p2
  ·subst hip2
   have:c= .st:=by rw [hC'] at hp2;cases hp2;rfl
   subst this
   obtain ⟨k1,k2⟩:=fok.s rfl
   refine fin _ (.inl ⟨hguard fB (noI LB) H β hfv _ k1,D5 (k2 _ (hev fB (noI LB)) E H β a w hsim hfv (hfv.operands hin')) ?_⟩)
   rintro a' w' ⟨H',β',u,rfl,q1,q2,_,q3⟩
   exact ⟨hbase, .inr (.inr ⟨by rw [hlisted',if_pos rfl],H',β',q1,hslot fB (noI LB) ([],sB) H' β' u hgB q2 q3⟩)⟩
  ·have hcase2:c= .af∨c= .fr∨c= .fl∨c= .ff:=by
    cases c with
    |af=>exact .inl rfl
    |fr=>exact .inr (.inl rfl)
    |fl=>exact .inr (.inr (.inl rfl))
    |ff=>exact .inr (.inr (.inr rfl))
    |mu=>exact absurd hcls1.1 hip
    |st=>exact absurd hcls1.1 hip2
    |bf=>
     have:=C6 hdown' 9 p i hcls1.1 hpy
     rw [hunl'] at this;cases this
   exact fin _ (cas fB LB sB hB H β hLB (fok.b hcase2) hsim hfv _ fun a' w' ⟨H',β',k1,k2⟩=>⟨hbase, .inr (.inl ⟨by rw [keep p (fun e=>hip e.symm)];exact hpy,by rw [keep p2 (fun e=>hip2 e.symm)];exact hpn2,H',β',k1,k2⟩)⟩)
 ·have hip2:i≠p2:=fun e=>by subst e;rw [hunl'] at hpy2;cases hpy2
  have hnw:De ops 9 p2 i=true→False:=fun h=>by
   have:=C6 hdown' 9 p2 i h hpy2
   rw [hunl'] at this;cases this
  have hcase2:c= .fl∨c= .ff:=by
   cases c with
   |fl=>exact .inl rfl
   |ff=>exact .inr rfl
   |af=>exact (hnw hcls1.2).elim
   |fr=>exact (hnw hcls1).elim
   |mu=>exact (hnw hcls1.2).elim
   |st=>exact absurd hcls1.1 hip2
   |bf=>exact (hnw hcls1.2).elim
  exact fin _ (cas fB LB sB hC H β hLB (fok.l hcase2) hsim hfv _ fun a' w' ⟨H',β',k1,k2⟩=>⟨hbase, .inr (.inr ⟨by rw [keep p2 (fun e=>hip2 e.symm)];exact hpy2,H',β',k1,k2⟩)⟩)
theorem Ak0 {f0:Fr} {l:List Oper} {L:List (List Nat × S)} {m:Nat}:∀k,A7 f0 l L (fun j=>(Array.replicate m false).getD j false) k=f0:=by
 intro k
 induction k with
 |zero=>rfl
 |succ k ih=>
  unfold A7
  cases l[k]? with
  |none=>exact ih
  |some o=>
   cases L[k]? with
   |none=>exact ih
   |some q=>
    have hz:(Array.replicate m false).getD k false=false:=by rw [Array.getD_eq_getD_getElem?,Array.getElem?_replicate];split<;>rfl
    simp only
    rw [hz,cond_false]
    exact ih
theorem Aoz {P:Program} {n id:Nat} {pre suf:List Oper} {ops:Array Oper} {K:C5} {f f':Fr} {h hB hC:Xh} {κ:S→S} {C:List C3} {LA LB:List S} (p p2:Nat) (hopsE:ops=(pre++suf).toArray) (hne:0<suf.length) (hm:P.follows .mixedOrders=true) (hin:pre.all (inN n)=true) (hin2:suf.all (inN n)=true)
  (hreg:Jz ops pre=true) (hS:O9 ops pre.length=true) (hc:ChF P n ops κ h hB hC pre f (fun t=>κ (f t)) C LA LB f') (hp:C[p]? =some .mu) (hp2:C[p2]? =some .st) (hcls:Aht ops p p2 C=true) (hk:XL P n ops suf K f' hC):XW P n (.region id ops true) K f h:=by
 have hops:∀j,j<pre.length→ops[j]? =pre[j]? :=fun j hj=>by rw [hopsE];simp [List.getElem?_append_left hj]
 have hops2:∀j,suf[j]? =ops[pre.length+j]? :=fun j=>by rw [hopsE,List.getElem?_toArray,List.getElem?_append_right (by omega),Nat.add_sub_cancel_left]
 have hsize:ops.size=pre.length+suf.length:=by rw [hopsE];simp
 intro E H β a w hs hf
 obtain ⟨k1,k2,k3,k8,k10⟩:=hc.ok
 have hpl2:p2<pre.length:=by rw [←k1];exact (List.getElem?_eq_some_iff.1 hp2).1
 have hz:∀k,(Array.replicate ops.size false).getD k false=false:=fun k=>by
  rw [Array.getD_eq_getD_getElem?,Array.getElem?_replicate];split<;>rfl
 refine L3 (I:=An9 n ops pre p p2 f (fun t=>κ (f t)) h hB hC LA LB E) pre.length suf hm hops2 hsize hne hS ⟨⟨by simp,fun j o e _ hj=>(by rw [hz] at hj;cases hj),fun k _=>hz k⟩, .inl ⟨hz p,hz p2,H,β,hs.drew,by rw [Ak0];exact hf⟩⟩ (fun _ _ _ hI=>hI.1) ?_ ?_
 ·intro listed a w hI i hi hip
  exact Aj4 hops hin hreg (fun _=>rfl) k1 k2 k3 k8 hp hp2 hcls hI hi hip
 ·rintro listed a w ⟨_,hcase⟩ hall
  rcases hcase with ⟨_,hpn,_⟩|⟨_,hpn,_⟩|⟨_,H,β,hsim,hfv⟩
  ·rw [hall p2 hpl2] at hpn;cases hpn
  ·rw [hall p2 hpl2] at hpn;cases hpn
  ·refine hk hin2 E H β a w hsim ?_
   rw [T9 hall pre.length (Nat.le_refl _),k10] at hfv
   exact hfv
def ChFK (P:Program) (n:Nat) (ops:Array Oper) (κ:S→S) (hA hB hC:Xh) (rest:List Oper) (fA fB:Fr) (acc:List C3) (G:List C3→Fr→Prop):Prop:=∃C LA LB f',ChF P n ops κ hA hB hC rest fA fB C LA LB f'∧G (acc++C) f'
section
variable {P:Program} {n:Nat} {ops:Array Oper} {κ:S→S} {hA hB hC:Xh} {rest:List Oper} {fA fB:Fr} {o:Oper} {s s':S} {acc:List C3} {G:List C3→Fr→Prop}
theorem ChFK.nil (hg:G acc fB):ChFK P n ops κ hA hB hC [] fA fB acc G:=⟨[], [], [],fB, .nil _ _,by simpa using hg⟩
theorem ChFK.step {c:C3} (hok:FOK P n ops κ hA hB hC o fA fB c s s') (hr:ChFK P n ops κ hA hB hC rest (Bb fA o.dst s) (Bb fB o.dst s') (acc++ [c]) G):ChFK P n ops κ hA hB hC (o::rest) fA fB acc G:=by
 obtain ⟨C,LA,LB,f',k1,k2⟩:=hr
 refine ⟨_,_,_,f', .step hok k1, ?_⟩
 rw [List.append_assoc] at k2
 exact k2
theorem Ko {f:Fr} {h:Xh} (hw:Bp ops f n o.guard=some true) (hc:CStep P o f h [] s h):OpF P n ops o f h s:= .inl ⟨hw,by obtain ⟨_,_,k⟩:=hc;exact k h (HLe.refl _)⟩
theorem ChFK.ff (hw:Bp ops fA n o.guard=some true) (hw':Bp ops fB n o.guard=some true) (hc:CStep P o fA hA [] s hA) (hc':CStep P o fB hB [] s' hB) (hc2:CStep P o fB hC [] s' hC) (hk:κ s=s') (hr:ChFK P n ops κ hA hB hC rest (Bb fA o.dst s) (Bb fB o.dst s') (acc++ [.ff]) G):ChFK P n ops κ hA hB hC (o::rest) fA fB acc G:=
 .step ⟨fun _=>⟨Ko hw hc,hk.symm⟩,fun _=>Ko hw' hc',fun _=>Ko hw' hc2,fun e=>absurd e (by decide),fun e=>absurd e (by decide)⟩ hr
theorem ChFK.mus (hw:Bp ops fA n o.guard=some true) (hκ:κ=fun s=>s) (hc:∀f',(∀x∈o.op.operands,ev f' x=ev fA x)→Step P n o f' hA s' f' hB) (hr:ChFK P n ops κ hA hB hC rest (Bb fA o.dst .any) (Bb fB o.dst s') (acc++ [.mu]) G):ChFK P n ops κ hA hB hC (o::rest) fA fB acc G:=
 .step ⟨fun e => absurd e (by decide), fun e => absurd e (by decide), fun e => absurd e (by decide), fun _ => ⟨hw, fun f' he E H β a w hs hf hop => D5 (hc f' he E H β a w hs hf hop) (by
  rintro a' w' ⟨H',β',u,e,k1,k2,k3⟩
  subst hκ
  exact ⟨H', β', u, e, k1, k2, .inl rfl, k3⟩)⟩, fun e => absurd e (by decide)⟩ hr
theorem ChFK.bf (hw:Bp ops fA n o.guard=some true) (hc:CStep P o fA hA [] s hA) (hk:κ s=s') (hr:ChFK P n ops κ hA hB hC rest (Bb fA o.dst s) (Bb fB o.dst s') (acc++ [.bf]) G):ChFK P n ops κ hA hB hC (o::rest) fA fB acc G:=
 .step ⟨fun _=>⟨Ko hw hc,hk.symm⟩,fun e=>absurd e (by decide),fun e=>absurd e (by decide),fun e=>absurd e (by decide),fun e=>absurd e (by decide)⟩ hr
theorem ChFK.fr (hw:Bp ops fA n o.guard=some true) (hw':Bp ops fB n o.guard=some true) (hc:CStep P o fA hA [] s hA) (hc':CStep P o fB hB [] s' hB) (hk:κ s=s') (hr:ChFK P n ops κ hA hB hC rest (Bb fA o.dst s) (Bb fB o.dst s') (acc++ [.fr]) G):ChFK P n ops κ hA hB hC (o::rest) fA fB acc G:=
 .step ⟨fun _=>⟨Ko hw hc,hk.symm⟩,fun _=>Ko hw' hc',fun e=>absurd e (by decide),fun e=>absurd e (by decide),fun e=>absurd e (by decide)⟩ hr
theorem ChFK.af (hw':Bp ops fB n o.guard=some true) (hc':CStep P o fB hB [] s' hB) (hr:ChFK P n ops κ hA hB hC rest (Bb fA o.dst .any) (Bb fB o.dst s') (acc++ [.af]) G):ChFK P n ops κ hA hB hC (o::rest) fA fB acc G:=
 .step ⟨fun e=>absurd e (by decide),fun _=>Ko hw' hc',fun e=>absurd e (by decide),fun e=>absurd e (by decide),fun e=>absurd e (by decide)⟩ hr
theorem ChFK.fl (hw':Bp ops fB n o.guard=some true) (hc':CStep P o fB hB [] s' hB) (hc2:CStep P o fB hC [] s' hC) (hr:ChFK P n ops κ hA hB hC rest (Bb fA o.dst .any) (Bb fB o.dst s') (acc++ [.fl]) G):ChFK P n ops κ hA hB hC (o::rest) fA fB acc G:=
 .step ⟨fun e=>absurd e (by decide),fun _=>Ko hw' hc',fun _=>Ko hw' hc2,fun e=>absurd e (by decide),fun e=>absurd e (by decide)⟩ hr
theorem ChFK.mu (hw:Bp ops fA n o.guard=some true) (hc:∀hF,HLe hA hF→Ju P n o fA hF 987654 s' κ (hF.by (fun k _=>hB k))) (hr:ChFK P n ops κ hA hB hC rest (Bb fA o.dst .any) (Bb fB o.dst s') (acc++ [.mu]) G):ChFK P n ops κ hA hB hC (o::rest) fA fB acc G:=
 .step ⟨fun e=>absurd e (by decide),fun e=>absurd e (by decide),fun e=>absurd e (by decide),fun _=>⟨hw,hc hA (HLe.refl _)⟩,fun e=>absurd e (by decide)⟩ hr
theorem ChFK.st (hw:Bp ops fB n o.guard=some true) (hc:∀f',(∀x∈o.op.operands,ev f' x=ev fB x)→Step P n o f' hB s' f' hC) (hr:ChFK P n ops κ hA hB hC rest (Bb fA o.dst .any) (Bb fB o.dst s') (acc++ [.st]) G):ChFK P n ops κ hA hB hC (o::rest) fA fB acc G:=
 .step ⟨fun e => absurd e (by decide), fun e => absurd e (by decide), fun e => absurd e (by decide), fun e => absurd e (by decide), fun _ => ⟨hw, fun f' he E H β a w hs hf hop => D5 (hc f' he E H β a w hs hf hop) (by
  rintro a' w' ⟨H',β',u,e,k1,k2,k3⟩
  exact ⟨H', β', u, e, k1, k2, .inl rfl, k3⟩)⟩⟩ hr
end
theorem Z8 {P:Program} {n:Nat} {o:Oper} {f:Fr} {h hC:Xh} {t m:Nat} {x y:Operand} {i off:Nat} {l cs l':List S} (ho:o.op= .store t x y) (hx:ev f x= .ptr i 0 off) (hi:h i=some (.box l)) (hc:D3 h (ev f y)=some cs) (hz:sizeB P t m=true) (hm:cs.length=m) (hoff:off+m≤l.length) (hl:sets l off cs=l') (hh:HSub (h.set i (.box l')) hC):
  ∀f',(∀x∈o.op.operands,ev f' x=ev f x)→Step P n o f' h (.d (.v undef)) f' hC:=fun f' he E H β a w hs hf hop=>by
 have e1:=he x (by rw [ho];simp [Op.operands])
 have e2:=he y (by rw [ho];simp [Op.operands])
 refine D5 (Af (n:=n) (f:=f') ho (by rw [e1];exact hx) hi (by rw [e2];exact hc) hz hm hoff hl E H β a w hs hf hop) ?_
 rintro a' w' ⟨H',β',u,e,k1,k2,k3⟩
 exact ⟨H',β',u,e,k1.drop hh,k2,k3⟩
theorem Z7 {P:Program} {n:Nat} {o:Oper} {f:Fr} {h hC:Xh} {t m:Nat} {x y:Operand} {i k off:Nat} {ty:TypeId} {sz:Nat} {ls:List Nat} (ls':List Nat) {l l':List (List T)} {z:List T} {cs:List S} (ho:o.op= .store t x y) (hx:ev f x= .ptr i k off) (hi:h i=some (.tree ty sz ls l)) (hk:l[k]? =some z) (hc:D3 h (ev f y)=some cs)
  (hz:sizeB P t m=true) (hm:cs.length=m) (hoff:off+m≤z.length) (hsub:ls.all (fun j=>B8 j ls')=true) (hcs:cs.all (fun d=>d.toT.inn ls')=true) (hl':l.set k (sets z off (cs.map S.toT))=l') (hh:HSub (h.set i (.tree ty sz ls' l')) hC):
  ∀f',(∀x∈o.op.operands,ev f' x=ev f x)→Step P n o f' h (.d (.v undef)) f' hC:=fun f' he E H β a w hs hf hop=>by
 have e1:=he x (by rw [ho];simp [Op.operands])
 have e2:=he y (by rw [ho];simp [Op.operands])
 refine D5 (D1 (n:=n) (f:=f') ls' ho (by rw [e1];exact hx) hi hk (by rw [e2];exact hc) hz hm hoff hsub hcs hl' E H β a w hs hf hop) ?_
 rintro a' w' ⟨H',β',u,e,k1,k2,k3⟩
 exact ⟨H',β',u,e,k1.drop hh,k2,k3⟩
theorem Aew {P:Program} {n id:Nat} {l:List Oper} {K:C5} {f:Fr} {h:Xh} (p p2 q:Nat) (κ:S→S) (hB hC:Xh) (hm:P.follows .mixedOrders=true) (hin:l.all (inN n)=true) (hreg:Jz l.toArray (l.take q)=true) (hS:(Nat.blt q l.length && O9 l.toArray q)=true)
  (hc:ChFK P n l.toArray κ h hB hC (l.take q) f (fun t=>κ (f t)) [] (fun C f'=>(C[p]? =some .mu∧C[p2]? =some .st∧Aht l.toArray p p2 C=true)∧XL P n l.toArray (l.drop q) K f' hC)):XW P n (.region id l.toArray true) K f h:=by
 obtain ⟨C,LA,LB,f',k1,⟨k2,k3,k4⟩,k5⟩:=hc
 rw [Bool.and_eq_true] at hS
 have hp:=Fb hS.1
 rw [←List.take_append_drop q l,List.all_append,Bool.and_eq_true] at hin
 exact Aoz p p2 (by rw [List.take_append_drop]) (by rw [List.length_drop];omega) hm hin.1 hin.2 hreg (by rw [List.length_take,Nat.min_eq_left (by omega)];exact hS.2) k1 k2 k3 k4 k5
end Go.Proofs.YtaafemnkamfgnaaGreat
namespace Go.Proofs.YtaafemnkamfgnaaGreat
open Go.RowKit
theorem Jm {P:Program} {o:Oper} {e:Operand→S} {h:Xh} {t sz n:Nat} {x y:Operand} {α:Type} {l:List α} {g:α→List D} (ho:o.op= .slice t x none (some y) none) (hx:e x= .d (.sl sz (l.map g))) (hy:e y= .d (.v (.int .i64 (min (l.length:Int) (n:Int))))) (hf:elB P t sz=true):Bh P o e h (.d (.sl sz ((l.take n).map g))):=by
 have q:=Jn (h:=h) (a:=0) (b:=min l.length n) ho hx hf .no (Bd.ati hy (by omega)) (Nat.zero_le _) (Nat.min_le_left _ _)
 refine Ae q ?_
 rw [List.drop_zero,Nat.min_comm, ←List.take_take,List.take_length]
theorem Vr {P:Program} {o:Oper} {e:Operand→S} {h:Xh} {t n:Nat} {x y:Operand} {l:List UInt8} (ho:o.op= .slice t x none (some y) none) (hx:e x= .d (.v (.string ⟨l.toArray⟩))) (hy:e y= .d (.v (.int .i64 (min (l.length:Int) (n:Int))))) (hu:P.underlying t=some .string):Bh P o e h (.d (.v (.string ⟨(l.take n).toArray⟩))):=fun E H β ρ w _ hop=>by
 have g:=hop x (by rw [ho];simp [Op.operands])
 have g2:=hop y (by rw [ho];simp [Op.operands])
 rw [hx] at g
 rw [hy] at g2
 refine ⟨_, ?_, .d (.v (.string ⟨(l.take n).toArray⟩))⟩
 have hm:(min (l.length:Int) (n:Int))=((min l.length n:Nat):Int):=by omega
 have hsz:(ByteArray.mk l.toArray).size=l.length:=by simp [ByteArray.size]
 have hlt:(0:Int)≤((min l.length n:Nat):Int)∧((min l.length n:Nat):Int)≤(l.length:Int):=⟨by omega,by omega⟩
 have hex:(ByteArray.mk l.toArray).extract 0 (min l.length n)=⟨(l.take n).toArray⟩:=by
  apply ByteArray.ext
  rw [ByteArray.data_extract]
  simp [List.take_take]
  omega
 unfold execOp
 simp only [ho,Ds g,Ds g2,hm,Instr.sliceAt,Option.map_none,Option.map_some,Sem.run_bind,run_underlying hu,Result.andThen_ok,Instr.slice,Instr.sliceBounds,Instr.sliceBound,hsz,Sem.run_pure,Option.isSome_none,Bool.false_eq_true,if_false,asInt,asIntOf,hlt,and_self,if_true,Int.toNat_natCast,hex]
theorem Sim.subcut {E:Env} {H:Hp} {β:Bt} {h:Xh} {w:World} (s:Sim E H β h w) {i b k m:Nat} {ty:TypeId} {sz:Nat} {r:List (List D)} {l:List S} (hb:h b=some (.box l)) (hk:l[k]? =some (.sub i 0 m)) (hi:h i=some (.row ty sz r)) (hib:i≠b):
  ∃β',Sim E H β' (((h.kill i).set i (.row ty sz (r.take m))).set b (.box ((S.killL i l).set k (.own i)))) w∧∀{n:Nat} {a:Act} {f:Fr},FV n H β a f→FV n H β' a (Eg f i):=by
 have keep:∀Lo,((h.kill i).set i (.row ty sz (r.take m))) b=some (.box (S.killL i l))∧(β.set i Lo) b=β b:=fun Lo=>⟨by rw [Xh.set_ne _ _ hib,Xh.kill_ne _ hib,hb];rfl,Bt.set_ne _ _ hib⟩
 cases hL:β b with
 |none=>
  have s2:Sim E H (β.set i none) ((h.kill i).set i (.row ty sz (r.take m))) w:=(s.kill i none).blind (Bt.set_same _ _ _) rfl
  exact ⟨β.set i none,s2.blind (by rw [(keep none).2,hL]) rfl,fun hf=>hf.kill i none⟩
 |some Lb=>
  obtain ⟨h1,h0,us,t,h2,h3,h4⟩:=s.obj b _ Lb hb hL
  have hku:k<us.size:=by have:=(List.getElem?_eq_some_iff.1 hk).1;omega
  obtain ⟨L,A,n,c,hLi,hv,_,hmn,hu⟩:=X8 (h4 k us[k] _ (Array.getElem?_eq_getElem hku) hk)
  have hu':us[k]= .slice A m c:=by
   rw [hu,Nat.zero_mul,Nat.sub_zero,Nat.sub_zero]
   split
   ·rfl
   ·rename_i hc
    obtain ⟨_,_,_,_,hown,_,_⟩:=s.obj i _ L hi hLi
    rcases hown.2 with ⟨e1,_⟩|⟨g,cap,cur,e1,_⟩
    ·rw [hv] at e1;injection e1 with q1 q2 q3;subst q1;rfl
    ·rw [hv] at e1;injection e1 with q1 q2 q3;subst q1;simp [Go.WideShapes.add_plain]
  have hrn:n=r.length:=by
   obtain ⟨_,_,_,_,hown,_,_⟩:=s.obj i _ L hi hLi
   rcases hown.2 with ⟨e1,e2⟩|⟨g,cap,cur,e1,_⟩
   ·rw [hv] at e1;injection e1 with q1 q2 q3;omega
   ·rw [hv] at e1;injection e1 with q1 q2 q3
  subst hrn
  have s2:=s.cutR hi hLi hv hmn
  refine ⟨_,s2.turn (o:= .box (S.killL i l)) (keep (some ⟨.slice A m c,L.b,sz,noB⟩)).1 (by rw [(keep (some ⟨.slice A m c,L.b,sz,noB⟩)).2,hL]) rfl s2.below (fun _ _=>rfl) ⟨h1,by rw [List.length_set,S.killL_length];exact h0,us,t,h2,by rw [List.length_set,S.killL_length];exact h3,fun j u q hj hq=> ?_⟩,fun hf=>hf.kill i _⟩
  by_cases e:k=j
  ·subst e
   rw [List.getElem?_set_self (by rw [S.killL_length];omega)] at hq
   cases hq
   rw [Array.getElem?_eq_getElem hku] at hj
   cases hj
   rw [hu']
   exact VS.own (L:=⟨.slice A m c,L.b,sz,noB⟩) (Bt.set_same _ _ _)
  ·rw [List.getElem?_set_ne e,S.killL_get] at hq
   cases hl:l[j]? with
   |none=>rw [hl] at hq;cases hq
   |some q'=>rw [hl] at hq;cases hq;exact (h4 j u q' hj hl).kill i _
theorem Ah3 {P:Program} {n:Nat} {c:Code} {K:C5} {f:Fr} {h:Xh} (i b k m:Nat) {ty:TypeId} {sz:Nat} {r r':List (List D)} {l l':List S} (hb:h b=some (.box l)) (hk:l[k]? =some (.sub i 0 m)) (hi:h i=some (.row ty sz r)) (hib:i≠b) (hr:r.take m=r') (hl:(S.killL i l).set k (.own i)=l')
  (hc:XW P n c K (Eg f i) (((h.kill i).set i (.row ty sz r')).set b (.box l'))):XW P n c K f h:=fun E H β a w hs hf=>by
 subst hr hl
 obtain ⟨β',s2,f2⟩:=hs.subcut hb hk hi hib
 exact hc E H β' a w s2 (f2 hf)
theorem Yo {P:Program} {n:Nat} {o:Oper} {f:Fr} {h:Xh} {t:Nat} {x y:Operand} {i j p q off:Nat} {l l':List S} (ho:o.op= .store t x y) (hx:ev f x= .ptr i 0 off) (hi:h i=some (.box l)) (hy:ev f y= .sub j p q) (hz:sizeB P t 1=true) (hoff:off+1≤l.length) (hl:sets l off [.sub j p q]=l'):
  Step P n o f h (.d (.v undef)) f (h.set i (.box l')):=by
 subst hl
 intro E H β a w hs hf hop
 have g1:=hop x (by rw [ho];simp [Op.operands])
 have g2:=hop y (by rw [ho];simp [Op.operands])
 rw [hx] at g1
 rw [hy] at g2
 obtain ⟨L,hL,hp⟩:=F9 g1
 rw [Nat.zero_mul,Nat.zero_add] at hp
 have h1:(a.eval y).oneCell'=true:=by obtain ⟨_,_,_,_,_,_,_,_,hu⟩:=X8 g2;rw [hu];rfl
 have hcs:=Xr h1
 obtain ⟨w', r1, r2⟩ := Kh (P := P) (off := off) hL (a.eval y).cells.toList [.sub j p q] 0 l h w hs hi (by rw [hcs]; rfl) (fun k v s hj hs' => by
  rw [hcs] at hj
  match k with
  |0=>cases hj;cases hs';exact ⟨g2,h1⟩
  | k + 1 => simp at hs') (by rw [hcs]; simpa using hoff)
 have hr:(execOp a.eval o).run P w= .ok .skip w':=by
  have hsz:(a.eval y).cells.size=1:=by rw [hcs];rfl
  unfold execOp
  simp only [ho,Instr.storeAt,hp,Instr.sureAddr,Sem.run_bind,Sem.run_pure,Result.andThen_ok,storeVar,sizeB.run hz,hsz,ne_eq,not_true_eq_false,if_false,r1]
 unfold Oper.wp
 rw [hr]
 exact ⟨H,β,_,rfl,r2,hf, .d (.v _)⟩
structure Ev.room (e:Ev):Prop where
 heads:e.heads.length*40≤140737488355328
 graces:e.graces.length*40≤140737488355328
 lyr:e.lyr.length*24≤140737488355328
def Jw (s:Sy):Sy:=⟨s.text.take 30,s.link⟩
def Jy (e:Ev):Ev:={e with heads:=e.heads.take 5,graces:=e.graces.take 4,lyr:=(e.lyr.take 5).map Jw}
def shSys (l:List Sy) (k:Nat):List Sy:=(l.take k).map Jw++l.drop k
theorem Adh (l:List Hd) (h:l.length*40≤140737488355328):XS Tryz.prog 140 [.sl 5 (l.map Hd.c)] (.own 5) [(5, .row 200 5 ((l).map Hd.c))]:=by
 refine Ef Rh Tryz.func140 R R lb (by kernel_rfl) (by kernel_rfl)<|zr<|za R R<|zn<|zs<|zr<|zm R R<|?_
 refine XL.eqnil R R R Tryz.underlying55 (fun hn4=> ?_) ?_
 refine zn<|Aw (by kernel_rfl) R<|zr<|za R R<|zn<|D6 5 2 200 5 R<|zt<|?_
 exact ⟨C1 R (RVS.tmp R R),HSub.cons (by rw [hn4];rfl) (HSub.nil)⟩
 refine zn<|A8 (by kernel_rfl) R<|zi<|zr<|XL.step R (Bo 5 R Tryz.underlying55 Yj Tb R R (by omega) (by omega))<|zm R R<|XL.step R (A3 R Aks (.own R) (Src.sl (by omega)) (by unfold maxLen;simp;omega) (by simp;omega))<|zp (Ar R (by conv=>lhs;whnf))<|?_
 refine zn<|zt<|?_
 exact ⟨C1 R (RVS.tmp R R),HSub.cons (R) (HSub.nil)⟩
theorem Adk (l:List Gr) (h:l.length*40≤140737488355328):XS Tryz.prog 141 [.sl 5 (l.map Gr.c)] (.own 5) [(5, .row 203 5 ((l).map Gr.c))]:=by
 refine Ef Rg Tryz.func141 R R lb (by kernel_rfl) (by kernel_rfl)<|zr<|za R R<|zn<|zs<|zr<|zm R R<|?_
 refine XL.eqnil R R R Tryz.underlying56 (fun hn4=> ?_) ?_
 refine zn<|Aw (by kernel_rfl) R<|zr<|za R R<|zn<|D6 5 2 203 5 R<|zt<|?_
 exact ⟨C1 R (RVS.tmp R R),HSub.cons (by rw [hn4];rfl) (HSub.nil)⟩
 refine zn<|A8 (by kernel_rfl) R<|zi<|zr<|XL.step R (Bo 5 R Tryz.underlying56 Yi Ta R R (by omega) (by omega))<|zm R R<|XL.step R (A3 R Akr (.own R) (Src.sl (by omega)) (by unfold maxLen;simp;omega) (by simp;omega))<|zp (Ar R (by conv=>lhs;whnf))<|?_
 refine zn<|zt<|?_
 exact ⟨C1 R (RVS.tmp R R),HSub.cons (R) (HSub.nil)⟩
theorem Adg (l:List Sy) (h:l.length*24≤140737488355328):XS Tryz.prog 142 [.sl 2 (l.map Sy.c)] (.own 5) [(5, .row 171 2 ((l).map Sy.c))]:=by
 refine Ef Rf Tryz.func142 R R lb (by kernel_rfl) (by kernel_rfl)<|zr<|za R R<|zn<|zs<|zr<|zm R R<|?_
 refine XL.eqnil R R R Tryz.underlying57 (fun hn4=> ?_) ?_
 refine zn<|Aw (by kernel_rfl) R<|zr<|za R R<|zn<|D6 5 2 171 2 R<|zt<|?_
 exact ⟨C1 R (RVS.tmp R R),HSub.cons (by rw [hn4];rfl) (HSub.nil)⟩
 refine zn<|A8 (by kernel_rfl) R<|zi<|zr<|XL.step R (Bo 5 R Tryz.underlying57 Yk O5 R R (by omega) (by omega))<|zm R R<|XL.step R (A3 R Akq (.own R) (Src.sl (by omega)) (by unfold maxLen;simp;omega) (by simp;omega))<|zp (Ar R (by conv=>lhs;whnf))<|?_
 refine zn<|zt<|?_
 exact ⟨C1 R (RVS.tmp R R),HSub.cons (R) (HSub.nil)⟩
theorem Akw (e:Ev) (h:e.room):XS Tryz.prog 111 [.agg (Ev.c e)] (.agg [.d (dI e.site), .d (dI e.num), .d (dI e.kind), .d (dI e.v.log), .d (dI e.v.dots), .own 7501, .own 7502, .d (dI e.art), .d (dI e.orn), .d (dI e.dyn), .own 7503, .d (dI e.stem), .d (dI e.beam)]) [(7501, .row 200 5 ((e.heads).map Hd.c)),(7502, .row 203 5 ((e.graces).map Gr.c)),(7503, .row 171 2 ((e.lyr).map Sy.c))]:=by
 have h1:=h.heads
 have h2:=h.graces
 have h3:=h.lyr
 refine Ef Rj Tryz.func111 R R lb (by kernel_rfl) (by kernel_rfl)<|zr<|XL.step R (Ao 1 (l:= [.d (dI e.site), .d (dI e.num), .d (dI e.kind), .d (dI e.v.log), .d (dI e.v.dots), .d (.sl 5 (e.heads.map Hd.c)), .d (.sl 5 (e.graces.map Gr.c)), .d (dI e.art), .d (dI e.orn), .d (dI e.dyn), .d (.sl 2 (e.lyr.map Sy.c)), .d (dI e.stem), .d (dI e.beam)]) R R (by kernel_rfl))<|?_
 refine XL.step R (Ap 2 (l:= [.d (dI 0), .d (dI 0), .d (dI 0), .d (dI 0), .d (dI 0), .d (.v (.slice none 0 0)), .d (.v (.slice none 0 0)), .d (dI 0), .d (dI 0), .d (dI 0), .d (.v (.slice none 0 0)), .d (dI 0), .d (dI 0)]) R Ck (by kernel_rfl))<|zn<|zs<|Cq 10 [7501,7502,7503] (by kernel_rfl) (by kernel_rfl) (by kernel_rfl) (by kernel_rfl) (by decide)<|yp (Aa R R Db)<|?_
 refine yp (Ab R R Hs R R)<|ChK.cons R (CStep.callS R ((Adh _ (by assumption)).lab 7501) R (Nl (by kernel_rfl)))<|yp (Aa R R Gd)<|yp (Ab R R N4 R R)<|ChK.cons R (CStep.callS R ((Adk _ (by assumption)).lab 7502) R (Nl (by kernel_rfl)))<|yp (Aa R R Ey)<|yp (Ab R R Jp R R)<|?_
 refine ChK.cons R (CStep.callS R ((Adg _ (by assumption)).lab 7503) R (Nl (by kernel_rfl)))<|yp (Aa R R Db)<|?_
 refine ChK.nil ⟨by kernel_rfl, ?_⟩
 refine XL.step R (Af (l':= [.d (dI e.site), .d (dI e.num), .d (dI e.kind), .d (dI e.v.log), .d (dI e.v.dots), .own 7501, .d (.sl 5 (e.graces.map Gr.c)), .d (dI e.art), .d (dI e.orn), .d (dI e.dyn), .d (.sl 2 (e.lyr.map Sy.c)), .d (dI e.stem), .d (dI e.beam)]) R R R R Nz R lb (by kernel_rfl))<|zp (Aa R R Gd)<|?_
 refine XL.step R (Af (l':= [.d (dI e.site), .d (dI e.num), .d (dI e.kind), .d (dI e.v.log), .d (dI e.v.dots), .own 7501, .own 7502, .d (dI e.art), .d (dI e.orn), .d (dI e.dyn), .d (.sl 2 (e.lyr.map Sy.c)), .d (dI e.stem), .d (dI e.beam)]) R R R R Agn R lb (by kernel_rfl))<|zp (Aa R R Ey)<|?_
 refine XL.step R (Af (l':= [.d (dI e.site), .d (dI e.num), .d (dI e.kind), .d (dI e.v.log), .d (dI e.v.dots), .own 7501, .own 7502, .d (dI e.art), .d (dI e.orn), .d (dI e.dyn), .own 7503, .d (dI e.stem), .d (dI e.beam)]) R R R R Agm R lb (by kernel_rfl))<|znr<|zp (Ac (Ad R R Bu R lb))<|?_
 refine XL.step R (Af (l':= [.d (dI e.site), .d (dI e.num), .d (dI e.kind), .d (dI e.v.log), .d (dI e.v.dots), .own 7501, .own 7502, .d (dI e.art), .d (dI e.orn), .d (dI e.dyn), .own 7503, .d (dI e.stem), .d (dI e.beam)]) R R R R C7 R lb (by kernel_rfl))<|zn<|zt<|?_
 exact ⟨C1 R (RVS.eq (RVS.cells (i:=2) R R R Bu lb) R),HSub.cons (R) (HSub.cons (R) (HSub.cons (R) (HSub.nil)))⟩
theorem P3 (e:Ev) (h:e.room):XC Tryz.prog 83 [.agg (Ev.c e)] (fun r=>r= .agg (Ev.c (Jy e))):=by
 refine Al Ads Tryz.func83 R R lb<|zr<|XL.step R (Ao 1 (l:= [.d (dI e.site), .d (dI e.num), .d (dI e.kind), .d (dI e.v.log), .d (dI e.v.dots), .d (.sl 5 (e.heads.map Hd.c)), .d (.sl 5 (e.graces.map Gr.c)), .d (dI e.art), .d (dI e.orn), .d (dI e.dyn), .d (.sl 2 (e.lyr.map Sy.c)), .d (dI e.stem), .d (dI e.beam)]) R R (by kernel_rfl))<|?_
 refine XL.step R (Ap 2 (l:= [.d (dI 0), .d (dI 0), .d (dI 0), .d (dI 0), .d (dI 0), .d (.v (.slice none 0 0)), .d (.v (.slice none 0 0)), .d (dI 0), .d (dI 0), .d (dI 0), .d (.v (.slice none 0 0)), .d (dI 0), .d (dI 0)]) R Ck (by kernel_rfl))<|znr<|zp (Ae (s':= .d (.agg (Ev.c e))) (Ac (Ad R R Bu R lb)) (by kernel_rfl))<|XL.callS R R (Akw _ (by assumption)) R<|?_
 refine XL.freeze (i:=7501) R<|XL.freeze (i:=7502) R<|XL.step R (Af (l':= [.d (dI e.site), .d (dI e.num), .d (dI e.kind), .d (dI e.v.log), .d (dI e.v.dots), .d (.sl 5 (e.heads.map Hd.c)), .d (.sl 5 (e.graces.map Gr.c)), .d (dI e.art), .d (dI e.orn), .d (dI e.dyn), .own 7503, .d (dI e.stem), .d (dI e.beam)]) R R R R C7 R lb (by kernel_rfl))<|zn<|zs<|?_
 refine Aew 22 24 25 (fun s=>s) (mkH [(1, .box [.d (dI e.site), .d (dI e.num), .d (dI e.kind), .d (dI e.v.log), .d (dI e.v.dots), .d (.sl 5 ((e.heads.take 5).map Hd.c)), .d (.sl 5 (e.graces.map Gr.c)), .d (dI e.art), .d (dI e.orn), .d (dI e.dyn), .own 7503, .d (dI e.stem), .d (dI e.beam)]),(2, .box [.d (dI 0), .d (dI 0), .d (dI 0), .d (dI 0), .d (dI 0), .d (.v (.slice none 0 0)), .d (.v (.slice none 0 0)), .d (dI 0), .d (dI 0), .d (dI 0), .d (.v (.slice none 0 0)), .d (dI 0), .d (dI 0)]),(7503, .row 171 2 ((e.lyr).map Sy.c))]) (mkH [(1, .box [.d (dI e.site), .d (dI e.num), .d (dI e.kind), .d (dI e.v.log), .d (dI e.v.dots), .d (.sl 5 ((e.heads.take 5).map Hd.c)), .d (.sl 5 ((e.graces.take 4).map Gr.c)), .d (dI e.art), .d (dI e.orn), .d (dI e.dyn), .own 7503, .d (dI e.stem), .d (dI e.beam)]),(2, .box [.d (dI 0), .d (dI 0), .d (dI 0), .d (dI 0), .d (dI 0), .d (.v (.slice none 0 0)), .d (.v (.slice none 0 0)), .d (dI 0), .d (dI 0), .d (dI 0), .d (.v (.slice none 0 0)), .d (dI 0), .d (dI 0)]),(7503, .row 171 2 ((e.lyr).map Sy.c))]) (by kernel_rfl) (by kernel_rfl) (by kernel_rfl) (by kernel_rfl)<|?_
 refine ChFK.bf R (CStep.pure (Aa R R Db)) (by conv=>lhs;whnf)<|?_
 refine ChFK.bf R (CStep.pure (Ab R R Hs R R)) (by conv=>lhs;whnf)<|?_
 refine ChFK.bf R (CStep.pure (Aa R R Db)) (by conv=>lhs;whnf)<|?_
 refine ChFK.bf R (CStep.pure (Ab R R Hs R R)) (by conv=>lhs;whnf)<|?_
 refine ChFK.bf R (CStep.pure (Kk R R Tryz.underlying55)) (by conv=>lhs;whnf)<|?_
 refine ChFK.bf R (CStep.pure (Fq R R R)) (by conv=>lhs;whnf)<|?_
 refine ChFK.bf R (CStep.pure (Jm R R R R1)) (by conv=>lhs;whnf)<|?_
 refine ChFK.bf R (CStep.pure (Aa R R Gd)) (by conv=>lhs;whnf)<|?_
 refine ChFK.bf R (CStep.pure (Ab R R N4 R R)) (by conv=>lhs;whnf)<|?_
 refine ChFK.bf R (CStep.pure (Aa R R Gd)) (by conv=>lhs;whnf)<|?_
 refine ChFK.bf R (CStep.pure (Ab R R N4 R R)) (by conv=>lhs;whnf)<|?_
 refine ChFK.fr R R (CStep.pure (Kk R R Tryz.underlying56)) (CStep.pure (Kk R R Tryz.underlying56)) (by exact rfl)<|ChFK.fr R R (CStep.pure (Fq R R R)) (CStep.pure (Fq R R R)) (by exact rfl)<|ChFK.fr R R (CStep.pure (Jm R R R U8)) (CStep.pure (Jm R R R U8)) (by exact rfl)<|ChFK.bf R (CStep.pure (Aa R R Ey)) (by conv=>lhs;whnf)<|?_
 refine ChFK.bf R (CStep.pure (Ab R R Jp R R)) (by conv=>lhs;whnf)<|?_
 refine ChFK.bf R (CStep.pure (Aa R R Ey)) (by conv=>lhs;whnf)<|?_
 refine ChFK.bf R (CStep.pure (Ab R R Jp R R)) (by conv=>lhs;whnf)<|?_
 refine ChFK.ff R R (CStep.pure (Bc R R R Tryz.underlying57)) (CStep.pure (Bc R R R Tryz.underlying57)) (CStep.pure (Bc R R R Tryz.underlying57)) (by exact rfl)<|ChFK.ff R R (CStep.pure (Fq R R R)) (CStep.pure (Fq R R R)) (CStep.pure (Fq R R R)) (by exact rfl)<|?_
 refine ChFK.ff R R (CStep.pure (Ls R R R Ln Bd.no (Bd.ati R (show _=((min e.lyr.length 5:Nat):Int) by omega)) (Nat.zero_le _) (by rw [List.length_map];omega))) (CStep.pure (Ls rfl rfl rfl Ln Bd.no (Bd.ati rfl (show _=((min e.lyr.length 5:Nat):Int) by omega)) (Nat.zero_le _) (by rw [List.length_map];omega))) (CStep.pure (Ls rfl rfl rfl Ln Bd.no (Bd.ati rfl (show _=((min e.lyr.length 5:Nat):Int) by omega)) (Nat.zero_le _) (by rw [List.length_map];omega))) (by exact rfl)<|?_
 refine ChFK.bf R (CStep.pure (Aa R R Db)) (by conv=>lhs;whnf)<|?_
 refine ChFK.mus R R (Z8 (l':= [.d (dI e.site), .d (dI e.num), .d (dI e.kind), .d (dI e.v.log), .d (dI e.v.dots), .d (.sl 5 ((e.heads.take 5).map Hd.c)), .d (.sl 5 (e.graces.map Gr.c)), .d (dI e.art), .d (dI e.orn), .d (dI e.dyn), .own 7503, .d (dI e.stem), .d (dI e.beam)]) R R R R Nz R lb (by kernel_rfl) (gz ⟨R,R,R,trivial⟩))<|ChFK.af R (CStep.pure (Aa R R Gd))<|?_
 refine ChFK.st R (Z8 (l':= [.d (dI e.site), .d (dI e.num), .d (dI e.kind), .d (dI e.v.log), .d (dI e.v.dots), .d (.sl 5 ((e.heads.take 5).map Hd.c)), .d (.sl 5 ((e.graces.take 4).map Gr.c)), .d (dI e.art), .d (dI e.orn), .d (dI e.dyn), .own 7503, .d (dI e.stem), .d (dI e.beam)]) R R R R Agn R lb (by kernel_rfl) (gz ⟨R,R,R,trivial⟩))<|?_
 refine ChFK.nil ⟨⟨by kernel_rfl,by kernel_rfl,by kernel_rfl⟩, ?_⟩
 refine zp (Aa R R Ey)<|XL.step R (Yo (l':= [.d (dI e.site), .d (dI e.num), .d (dI e.kind), .d (dI e.v.log), .d (dI e.v.dots), .d (.sl 5 ((e.heads.take 5).map Hd.c)), .d (.sl 5 ((e.graces.take 4).map Gr.c)), .d (dI e.art), .d (dI e.orn), .d (dI e.dyn), .sub 7503 0 (min e.lyr.length 5), .d (dI e.stem), .d (dI e.beam)]) R R R R Agm lb (by kernel_rfl))<|zn<|zs<|zs<|?_
 refine Ah3 7503 1 10 (min e.lyr.length 5) R R R (by decide) (r':=(e.lyr.take 5).map Sy.c) (by rw [←List.map_take,Nat.min_comm, ←List.take_take,List.take_length]) R<|?_
 have hsl:(e.lyr.take 5).length≤5:=by rw [List.length_take];omega
 refine Ag (by kernel_rfl)<|za R R<|zn<|Ah<|?_
 refine A0 (α:=Nat) (fun k=>k≤(e.lyr.take 5).length) (fun k=>mkF [(1, .ptr 1 0 0),(2, .ptr 2 0 0),(3, .d (dI k))]) (fun k=>mkH [(1, .box [.d (dI e.site), .d (dI e.num), .d (dI e.kind), .d (dI e.v.log), .d (dI e.v.dots), .d (.sl 5 ((e.heads.take 5).map Hd.c)), .d (.sl 5 ((e.graces.take 4).map Gr.c)), .d (dI e.art), .d (dI e.orn), .d (dI e.dyn), .own 7503, .d (dI e.stem), .d (dI e.beam)]),(2, .box [.d (dI 0), .d (dI 0), .d (dI 0), .d (dI 0), .d (dI 0), .d (.v (.slice none 0 0)), .d (.v (.slice none 0 0)), .d (dI 0), .d (dI 0), .d (dI 0), .d (.v (.slice none 0 0)), .d (dI 0), .d (dI 0)]),(7503, .row 171 2 ((Hz Jw (e.lyr.take 5) k).map Sy.c))]) (fun k=>(e.lyr.take 5).length - k) (0) (Nat.zero_le _) ?_ ?_ ?_
 exact fz ⟨sr,sr,sr,trivial⟩
 exact gz ⟨R,R,Jh (Pr _ _),trivial⟩
 intro k hk0
 refine zs<|zr<|zm R R<|zp (Aa R R Ey)<|zp (Ab R R Jp R R)<|zp (Bc R R R Tryz.underlying57)<|zp (Au R R R)<|zn<|?_
 refine zd R (fun c34=> ?_) (fun c34=> ?_)
 have hml:=N7 Jw (e.lyr.take 5) k
 have hkl:k<(e.lyr.take 5).length:=by omega
 obtain ⟨x,hx⟩:=Av hkl
 have hg:=Qw (f:=Jw) hx
 refine zi<|zs<|Ah<|Cq 18 [] (by kernel_rfl) (by kernel_rfl) (by kernel_rfl) (by kernel_rfl) (by decide)<|yp (Aa R R Ey)<|yp (Ab R R Jp R R)<|ym R R<|yp (Aa R R Ey)<|yp (Ab R R Jp R R)<|ym R R<|yp (Ca R R R (R) R Ln (by omega))<|yp (Aa R R Hm)<|yp (Gu R R Jf R (Ct hg) R)<|yp (Aa R R Ey)<|?_
 refine yp (Ab R R Jp R R)<|ym R R<|yp (Ca R R R (R) R Ln (by omega))<|yp (Aa R R Hm)<|yp (Gu R R Jf R (Ct hg) R)<|yp (Lt R R Tryz.underlying9)<|yp (Fq R R R)<|yp (Vr R R R Tryz.underlying9)<|?_
 refine ChK.nil ⟨by kernel_rfl, ?_⟩
 refine zp (Ca R R R (R) R Ln (by omega))<|zp (Aa R R Hm)<|XL.step R (D2 R R R (Ct hg) R R Aln R lb)<|zn<|Ag (by kernel_rfl)<|zm R R<|zp (An R R R (by omega) (by omega))<|za R R<|zn<|?_
 exact Am (k+1) (by omega) (by omega) (fz ⟨sr,sr,sr,trivial⟩) (gz ⟨R,R,Qm (a:=Jw x) R (Qv hx),trivial⟩)
 have hml:=N7 Jw (e.lyr.take 5) k
 have he:=Qx (f:=Jw) (l:=(e.lyr.take 5)) (k:=k) (by omega)
 refine As<|zr<|zp (Ac (Ad R R Bu R lb))<|XL.step R (Af (l':= [.d (dI e.site), .d (dI e.num), .d (dI e.kind), .d (dI e.v.log), .d (dI e.v.dots), .d (.sl 5 ((e.heads.take 5).map Hd.c)), .d (.sl 5 ((e.graces.take 4).map Gr.c)), .d (dI e.art), .d (dI e.orn), .d (dI e.dyn), .own 7503, .d (dI e.stem), .d (dI e.beam)]) R R R R C7 R lb (by kernel_rfl))<|zn<|zt<|?_
 refine B9 (i:=7503) R<|?_
 exact Ji R (RV.cells R R R Bu lb R) (by rw [he];rfl)
end Go.Proofs.YtaafemnkamfgnaaGreat
namespace Go.Proofs.YtaafemnkamfgnaaGreat
open Go.RowKit
def Vo.room (v:Vo):Prop:=∀e∈v.evs,e.room
def A9 (v:Vo):Vo:=⟨(v.evs.take 12).map Jy,v.tups.take 6⟩
theorem Uo {l:List Ev} {k:Nat} {x:Ev} (h:l[k]? =some x):(l.take (k+1)).map Jy=(l.take k).map Jy++ [Jy x]:=by rw [By h,List.map_append];rfl
theorem Ik {α:Type} {l:List α} {k m:Nat} (h:k≤m) (h2:¬k<m∨¬k<l.length):l.take k=l.take m:=by
 rcases h2 with h2|h2
 ·rw [show k=m by omega]
 ·rw [List.take_of_length_le (by omega),List.take_of_length_le (by omega)]
theorem Alx (e:Ev):(Jy e).fit:=⟨by show (e.heads.take 5).length≤1000;rw [List.length_take];omega,by show (e.graces.take 4).length≤1000;rw [List.length_take];omega,by show ((e.lyr.take 5).map Jw).length≤1000;rw [List.length_map,List.length_take];omega⟩
theorem Yw (v:Vo):(A9 v).fit:=⟨by show ((v.evs.take 12).map Jy).length≤1000;rw [List.length_map,List.length_take];omega,by show (v.tups.take 6).length≤1000;rw [List.length_take];omega,fun e he=>by obtain ⟨x,_,rfl⟩:=List.mem_map.1 he;exact Alx x⟩
theorem Alv {v:Vo} (h:Evs v.evs):Evs (A9 v).evs:=fun e he=>by obtain ⟨x,hx,rfl⟩:=List.mem_map.1 he;exact h x (List.mem_of_mem_take hx)
theorem Xw (v:Vo) (h:v.room):XS Tryz.prog 39 [.agg (Vo.c v)] (.agg [.own 7201, .own 7202]) [(7201, .row 59 13 (((A9 v).evs).map Ev.c)),(7202, .row 157 4 (((A9 v).tups).map Tp.c))]:=by
 refine Ef S6 Tryz.func39 R R lb (by kernel_rfl) (by kernel_rfl)<|zr<|XL.step R (Ao 1 (l:= [.d (.sl 13 (v.evs.map Ev.c)), .d (.sl 4 (v.tups.map Tp.c))]) R R (by kernel_rfl))<|XL.step R (Ap 2 (l:= [.d (.v (.slice none 0 0)), .d (.v (.slice none 0 0))]) R Ba (by kernel_rfl))<|znr<|?_
 refine XL.step R (Ap 3 (l:= [.d (.v (.slice none 0 0)), .d (.v (.slice none 0 0))]) R Ba (by kernel_rfl))<|zn<|zs<|zr<|za R R<|zn<|Ah<|Ew 7201 3 0 59 13 (l':= [.own 7201, .d (.v (.slice none 0 0))]) R R (by decide) (by kernel_rfl)<|?_
 refine A0 (α:=Nat) (fun k=>k≤v.evs.length∧k≤12) (fun k=>mkF [(1, .ptr 1 0 0),(2, .ptr 2 0 0),(3, .ptr 3 0 0),(4, .d (dI k))]) (fun k=>mkH [(1, .box ((Vo.c v).map S.d)),(2, .box [.d (.v (.slice none 0 0)), .d (.v (.slice none 0 0))]),(3, .box [.own 7201, .d (.v (.slice none 0 0))]),(7201, .row 59 13 (((v.evs.take k).map Jy).map Ev.c))]) (fun k=>v.evs.length - k) (0) (⟨Nat.zero_le _,Nat.zero_le _⟩) ?_ ?_ ?_
 exact fz ⟨sr,sr,sr,sr,trivial⟩
 exact gz ⟨R,R,R,R,trivial⟩
 intro k hk0
 obtain ⟨hk,hk12⟩:=hk0
 refine zs<|zr<|zm R R<|zp (Aa R R Bk)<|zp (Ab R R Cv R R)<|XL.len R R R Tryz.underlying79 fun hl8=>zp (Au R R R)<|zm R R<|?_
 refine XL.dec 10 R (fun g10=> ?_) (fun g10=> ?_)
 refine zm R R<|zp (Au R R R)<|zq R R R<|zn<|?_
 refine zd R (fun c13=> ?_) (fun c13=> ?_)
 have hkl:k<v.evs.length:=by omega
 obtain ⟨x,hx⟩:=Av hkl
 have hr:=h x (List.mem_of_getElem? hx)
 have htl:((v.evs.take k).map Jy).length=k:=by rw [List.length_map,List.length_take];omega
 refine zi<|zs<|Ah<|Cq 9 [] (by kernel_rfl) (by kernel_rfl) (by kernel_rfl) (by kernel_rfl) (by decide)<|yp (Aa R R Bk)<|yp (Ab R R Cv R R)<|yp (Aa R R Bk)<|yp (Ab R R Cv R R)<|ym R R<|yp (At R R R Gx (hx))<|yp (Ae (s':= .d (.agg (Ev.c x))) (A6 R R Bu lb) (by kernel_rfl))<|?_
 refine ChK.cons R (CStep.call R (P3 _ (by assumption)) R)<|ChK.cons R (CStep.slice R Tryz.underlying79 C7 Ck R R (by omega) (by omega))<|?_
 refine ChK.nil ⟨by kernel_rfl, ?_⟩
 refine XL.step R (A3 R Gf (.own R) (Src.sl (by omega)) (by unfold maxLen;simp;omega) (by simp;omega))<|zp (Aa R R Bk)<|XL.step R (Af (l':= [.own 7201, .d (.v (.slice none 0 0))]) R R R R O8 R lb (by kernel_rfl))<|zn<|Ag (by kernel_rfl)<|zm R R<|zp (An R R R (by omega) (by omega))<|za R R<|zn<|?_
 exact Am (k+1) (⟨by omega,by omega⟩) (by omega) (fz ⟨sr,sr,sr,sr,trivial⟩) (gz ⟨rfl,rfl,rfl,Hc rfl (Uo hx),trivial⟩)
 refine As<|zs<|Cq 9 [] (by kernel_rfl) (by kernel_rfl) (by kernel_rfl) (by kernel_rfl) (by decide)<|yp (Aa R R Bq)<|yp (Ab R R B0 R R)<|yp (Aa R R Bq)<|yp (Ab R R B0 R R)<|yp (Aa R R Bq)<|yp (Ab R R B0 R R)<|yp (Kk R R Tryz.underlying80)<|yp (Fq R R R)<|yp (Jm R R R Ex)<|?_
 refine ChK.nil ⟨by kernel_rfl, ?_⟩
 refine XL.step R (A3 R Fi (.nil 7202 _ _) (Src.sl (by omega)) (by unfold maxLen;simp;omega) (by simp;omega))<|zp (Aa R R Bq)<|XL.step R (Af (l':= [.own 7201, .own 7202]) R R R R Fz R lb (by kernel_rfl))<|znr<|zp (Ac (Ad R R Aq R lb))<|XL.step R (Af (l':= [.own 7201, .own 7202]) R R R R Bm R lb (by kernel_rfl))<|zn<|zt<|?_
 exact ⟨C1 R (RVS.eq (RVS.cells (i:=2) R R R Aq lb) R),HSub.cons (by rw [Ik (l:=v.evs) hk12 (by omega)];rfl) (HSub.cons (R) (HSub.nil))⟩
 refine zk 2 R<|zq R R R<|zn<|A8 (by kernel_rfl) R<|As<|zs<|Cq 9 [] (by kernel_rfl) (by kernel_rfl) (by kernel_rfl) (by kernel_rfl) (by decide)<|yp (Aa R R Bq)<|yp (Ab R R B0 R R)<|yp (Aa R R Bq)<|yp (Ab R R B0 R R)<|yp (Aa R R Bq)<|yp (Ab R R B0 R R)<|yp (Kk R R Tryz.underlying80)<|?_
 refine yp (Fq R R R)<|yp (Jm R R R Ex)<|?_
 refine ChK.nil ⟨by kernel_rfl, ?_⟩
 refine XL.step R (A3 R Fi (.nil 7202 _ _) (Src.sl (by omega)) (by unfold maxLen;simp;omega) (by simp;omega))<|zp (Aa R R Bq)<|XL.step R (Af (l':= [.own 7201, .own 7202]) R R R R Fz R lb (by kernel_rfl))<|znr<|zp (Ac (Ad R R Aq R lb))<|XL.step R (Af (l':= [.own 7201, .own 7202]) R R R R Bm R lb (by kernel_rfl))<|zn<|zt<|?_
 exact ⟨C1 R (RVS.eq (RVS.cells (i:=2) R R R Aq lb) R),HSub.cons (by rw [Ik (l:=v.evs) hk12 (by omega)];rfl) (HSub.cons (R) (HSub.nil))⟩
theorem P2 (v:Vo) (h:v.room):XC Tryz.prog 39 [.agg (Vo.c v)] (fun r=>r= .agg (Vo.c (A9 v))):=by
 refine Al S6 Tryz.func39 R R lb<|zr<|XL.step R (Ao 1 (l:= [.d (.sl 13 (v.evs.map Ev.c)), .d (.sl 4 (v.tups.map Tp.c))]) R R (by kernel_rfl))<|XL.step R (Ap 2 (l:= [.d (.v (.slice none 0 0)), .d (.v (.slice none 0 0))]) R Ba (by kernel_rfl))<|znr<|XL.step R (Ap 3 (l:= [.d (.v (.slice none 0 0)), .d (.v (.slice none 0 0))]) R Ba (by kernel_rfl))<|zn<|zs<|zr<|?_
 refine za R R<|zn<|Ah<|Ew 7201 3 0 59 13 (l':= [.own 7201, .d (.v (.slice none 0 0))]) R R (by decide) (by kernel_rfl)<|?_
 refine A0 (α:=Nat) (fun k=>k≤v.evs.length∧k≤12) (fun k=>mkF [(1, .ptr 1 0 0),(2, .ptr 2 0 0),(3, .ptr 3 0 0),(4, .d (dI k))]) (fun k=>mkH [(1, .box ((Vo.c v).map S.d)),(2, .box [.d (.v (.slice none 0 0)), .d (.v (.slice none 0 0))]),(3, .box [.own 7201, .d (.v (.slice none 0 0))]),(7201, .row 59 13 (((v.evs.take k).map Jy).map Ev.c))]) (fun k=>v.evs.length - k) (0) (⟨Nat.zero_le _,Nat.zero_le _⟩) ?_ ?_ ?_
 exact fz ⟨sr,sr,sr,sr,trivial⟩
 exact gz ⟨R,R,R,R,trivial⟩
 intro k hk0
 obtain ⟨hk,hk12⟩:=hk0
 refine zs<|zr<|zm R R<|zp (Aa R R Bk)<|zp (Ab R R Cv R R)<|XL.len R R R Tryz.underlying79 fun hl8=>zp (Au R R R)<|zm R R<|?_
 refine XL.dec 10 R (fun g10=> ?_) (fun g10=> ?_)
 refine zm R R<|zp (Au R R R)<|zq R R R<|zn<|?_
 refine zd R (fun c13=> ?_) (fun c13=> ?_)
 have hkl:k<v.evs.length:=by omega
 obtain ⟨x,hx⟩:=Av hkl
 have hr:=h x (List.mem_of_getElem? hx)
 have htl:((v.evs.take k).map Jy).length=k:=by rw [List.length_map,List.length_take];omega
 refine zi<|zs<|Ah<|Cq 9 [] (by kernel_rfl) (by kernel_rfl) (by kernel_rfl) (by kernel_rfl) (by decide)<|yp (Aa R R Bk)<|yp (Ab R R Cv R R)<|yp (Aa R R Bk)<|yp (Ab R R Cv R R)<|ym R R<|yp (At R R R Gx (hx))<|yp (Ae (s':= .d (.agg (Ev.c x))) (A6 R R Bu lb) (by kernel_rfl))<|?_
 refine ChK.cons R (CStep.call R (P3 _ (by assumption)) R)<|ChK.cons R (CStep.slice R Tryz.underlying79 C7 Ck R R (by omega) (by omega))<|?_
 refine ChK.nil ⟨by kernel_rfl, ?_⟩
 refine XL.step R (A3 R Gf (.own R) (Src.sl (by omega)) (by unfold maxLen;simp;omega) (by simp;omega))<|zp (Aa R R Bk)<|XL.step R (Af (l':= [.own 7201, .d (.v (.slice none 0 0))]) R R R R O8 R lb (by kernel_rfl))<|zn<|Ag (by kernel_rfl)<|zm R R<|zp (An R R R (by omega) (by omega))<|za R R<|zn<|?_
 exact Am (k+1) (⟨by omega,by omega⟩) (by omega) (fz ⟨sr,sr,sr,sr,trivial⟩) (gz ⟨rfl,rfl,rfl,Hc rfl (Uo hx),trivial⟩)
 refine As<|zs<|Cq 9 [] (by kernel_rfl) (by kernel_rfl) (by kernel_rfl) (by kernel_rfl) (by decide)<|yp (Aa R R Bq)<|yp (Ab R R B0 R R)<|yp (Aa R R Bq)<|yp (Ab R R B0 R R)<|yp (Aa R R Bq)<|yp (Ab R R B0 R R)<|yp (Kk R R Tryz.underlying80)<|yp (Fq R R R)<|yp (Jm R R R Ex)<|?_
 refine ChK.nil ⟨by kernel_rfl, ?_⟩
 refine XL.step R (A3 R Fi (.nil 7202 _ _) (Src.sl (by omega)) (by unfold maxLen;simp;omega) (by simp;omega))<|zp (Aa R R Bq)<|XL.step R (Af (l':= [.own 7201, .own 7202]) R R R R Fz R lb (by kernel_rfl))<|znr<|zp (Ac (Ad R R Aq R lb))<|XL.step R (Af (l':= [.own 7201, .own 7202]) R R R R Bm R lb (by kernel_rfl))<|zn<|zt<|?_
 refine B9 (i:=7201) R<|B9 (i:=7202) R<|?_
 exact Ji R (RV.cells R R R Aq lb R) (by rw [Ik (l:=v.evs) hk12 (by omega)];rfl)
 refine zk 2 R<|zq R R R<|zn<|A8 (by kernel_rfl) R<|As<|zs<|Cq 9 [] (by kernel_rfl) (by kernel_rfl) (by kernel_rfl) (by kernel_rfl) (by decide)<|yp (Aa R R Bq)<|yp (Ab R R B0 R R)<|yp (Aa R R Bq)<|yp (Ab R R B0 R R)<|yp (Aa R R Bq)<|yp (Ab R R B0 R R)<|yp (Kk R R Tryz.underlying80)<|?_
 refine yp (Fq R R R)<|yp (Jm R R R Ex)<|?_
 refine ChK.nil ⟨by kernel_rfl, ?_⟩
 refine XL.step R (A3 R Fi (.nil 7202 _ _) (Src.sl (by omega)) (by unfold maxLen;simp;omega) (by simp;omega))<|zp (Aa R R Bq)<|XL.step R (Af (l':= [.own 7201, .own 7202]) R R R R Fz R lb (by kernel_rfl))<|znr<|zp (Ac (Ad R R Aq R lb))<|XL.step R (Af (l':= [.own 7201, .own 7202]) R R R R Bm R lb (by kernel_rfl))<|zn<|zt<|?_
 refine B9 (i:=7201) R<|B9 (i:=7202) R<|?_
 exact Ji R (RV.cells R R R Aq lb R) (by rw [Ik (l:=v.evs) hk12 (by omega)];rfl)
def Ms.room (m:Ms):Prop:=∀c∈m.cells,∀v∈c.voices,v.room
def M8 (v:Vo):List T:=(A9 v).t
def M9 (c:Ce):Ce:=⟨c.clefs.take 8,(c.voices.take 3).map A9⟩
def L4 (c:Ce):List T:=(M9 c).t
def shH (h:Mh):Mh:={h with reh:=h.reh.take 30}
def A4 (m:Ms):Ms:=⟨shH m.h,m.tempi.take 8,(m.cells.take 4).map M9⟩
theorem Mu (ls:List Nat) (l:List Vo):T.inLL ls (l.map M8)=true:=T.inLL_map (fun v=>Vo.t_in ls (A9 v)) l
theorem Kb (ls:List Nat) (l:List Ce):T.inLL ls (l.map L4)=true:=T.inLL_map (fun v=>Ce.t_in ls (M9 v)) l
theorem Yv (l:List Vo):l.map M8=(l.map A9).map Vo.t:=by rw [List.map_map];rfl
theorem Yx (l:List Ce):l.map L4=(l.map M9).map Ce.t:=by rw [List.map_map];rfl
theorem Alw (m : Ms) : (A4 m).fit := ⟨by show (m.tempi.take 8).length ≤ 1000; rw [List.length_take]; omega, by show ((m.cells.take 4).map M9).length ≤ 1000; rw [List.length_map, List.length_take]; omega, fun c hc => by
 obtain ⟨x,_,rfl⟩:=List.mem_map.1 hc
 exact ⟨by show (x.clefs.take 8).length ≤ 1000; rw [List.length_take]; omega, by show ((x.voices.take 3).map A9).length ≤ 1000; rw [List.length_map, List.length_take]; omega, fun v hv => by obtain ⟨y, _, rfl⟩ := List.mem_map.1 hv; exact Yw y⟩⟩
theorem Ys (m:Ms) (h:m.room):XS Tryz.prog 14 [.agg (Ms.c m)] (.agg [.d (dI (shH m.h).site), .d (dI (shH m.h).num), .d (dI (shH m.h).m.count), .d (dI (shH m.h).m.unit), .d (dI (shH m.h).m.g0), .d (dI (shH m.h).m.g1), .d (dI (shH m.h).m.g2), .d (dI (shH m.h).m.g3), .d (dI (shH m.h).m.g4), .d (dI (shH m.h).m.g5), .d (dI (shH m.h).len), .d (dI (shH m.h).fifths), .d (dB (shH m.h).start), .d (dI (shH m.h).fin), .d (dI (shH m.h).ends), .d (dI (shH m.h).jump), .d (dI (shH m.h).labels), .d (dI (shH m.h).swing), .d (dI (shH m.h).brk), .d (.v (.string ⟨(shH m.h).reh.toArray⟩)), .own 7401, .own 7402]) [(7401, .row 119 3 (((A4 m).tempi).map Tm.c)),(7402, .tree 78 2 [] ((A4 m).cells.map Ce.t))]:=by
 refine Ef Aes Tryz.func14 R R lb (by kernel_rfl) (by kernel_rfl)<|zr<|?_
 refine XL.step R (Ao 1 (l:= [.d (dI m.h.site), .d (dI m.h.num), .d (dI m.h.m.count), .d (dI m.h.m.unit), .d (dI m.h.m.g0), .d (dI m.h.m.g1), .d (dI m.h.m.g2), .d (dI m.h.m.g3), .d (dI m.h.m.g4), .d (dI m.h.m.g5), .d (dI m.h.len), .d (dI m.h.fifths), .d (dB m.h.start), .d (dI m.h.fin), .d (dI m.h.ends), .d (dI m.h.jump), .d (dI m.h.labels), .d (dI m.h.swing), .d (dI m.h.brk), .d (.v (.string ⟨m.h.reh.toArray⟩)), .d (.sl 3 (m.tempi.map Tm.c)), .d (.sl 2 (m.cells.map Ce.c))]) R R (by kernel_rfl))<|?_
 refine XL.step R (Ap 2 (l:= [.d (dI 0), .d (dI 0), .d (dI 0), .d (dI 0), .d (dI 0), .d (dI 0), .d (dI 0), .d (dI 0), .d (dI 0), .d (dI 0), .d (dI 0), .d (dI 0), .d (dB false), .d (dI 0), .d (dI 0), .d (dI 0), .d (dI 0), .d (dI 0), .d (dI 0), .d (.v (.string ⟨#[]⟩)), .d (.v (.slice none 0 0)), .d (.v (.slice none 0 0))]) R Bz (by kernel_rfl))<|znr<|zp (Aa R R B1)<|?_
 refine zp (Ab R R Eb R R)<|za R R<|znr<|zp (Aa R R B1)<|?_
 refine XL.step R (Af (l':= [.d (dI m.h.site), .d (dI m.h.num), .d (dI m.h.m.count), .d (dI m.h.m.unit), .d (dI m.h.m.g0), .d (dI m.h.m.g1), .d (dI m.h.m.g2), .d (dI m.h.m.g3), .d (dI m.h.m.g4), .d (dI m.h.m.g5), .d (dI m.h.len), .d (dI m.h.fifths), .d (dB m.h.start), .d (dI m.h.fin), .d (dI m.h.ends), .d (dI m.h.jump), .d (dI m.h.labels), .d (dI m.h.swing), .d (dI m.h.brk), .d (.v (.string ⟨m.h.reh.toArray⟩)), .d (.sl 3 (m.tempi.map Tm.c)),_]) R R R R Uk R lb R)<|?_
 refine zn<|zs<|zr<|za R R<|zn<|Ah<|?_
 refine Ew 7402 1 21 78 2 (l':= [.d (dI m.h.site), .d (dI m.h.num), .d (dI m.h.m.count), .d (dI m.h.m.unit), .d (dI m.h.m.g0), .d (dI m.h.m.g1), .d (dI m.h.m.g2), .d (dI m.h.m.g3), .d (dI m.h.m.g4), .d (dI m.h.m.g5), .d (dI m.h.len), .d (dI m.h.fifths), .d (dB m.h.start), .d (dI m.h.fin), .d (dI m.h.ends), .d (dI m.h.jump), .d (dI m.h.labels), .d (dI m.h.swing), .d (dI m.h.brk), .d (.v (.string ⟨m.h.reh.toArray⟩)), .d (.sl 3 (m.tempi.map Tm.c)), .own 7402]) R R (by decide) (by kernel_rfl)<|?_
 refine Uc (i:=7402) (l':= []) R R<|?_
 refine A0 (α:=Nat) (fun k=>k≤m.cells.length∧k≤4) (fun k=>mkF [(1, .ptr 1 0 0),(2, .ptr 2 0 0),(3, .d (.sl 2 (m.cells.map Ce.c))),(4, .d (dI k))]) (fun k=>mkH [(1, .box [.d (dI m.h.site), .d (dI m.h.num), .d (dI m.h.m.count), .d (dI m.h.m.unit), .d (dI m.h.m.g0), .d (dI m.h.m.g1), .d (dI m.h.m.g2), .d (dI m.h.m.g3), .d (dI m.h.m.g4), .d (dI m.h.m.g5), .d (dI m.h.len), .d (dI m.h.fifths), .d (dB m.h.start), .d (dI m.h.fin), .d (dI m.h.ends), .d (dI m.h.jump), .d (dI m.h.labels), .d (dI m.h.swing), .d (dI m.h.brk), .d (.v (.string ⟨m.h.reh.toArray⟩)), .d (.sl 3 (m.tempi.map Tm.c)), .own 7402]),(2, .box [.d (dI 0), .d (dI 0), .d (dI 0), .d (dI 0), .d (dI 0), .d (dI 0), .d (dI 0), .d (dI 0), .d (dI 0), .d (dI 0), .d (dI 0), .d (dI 0), .d (dB false), .d (dI 0), .d (dI 0), .d (dI 0), .d (dI 0), .d (dI 0), .d (dI 0), .d (.v (.string ⟨#[]⟩)), .d (.v (.slice none 0 0)), .d (.v (.slice none 0 0))]),(7402, .tree 78 2 [] ((m.cells.take k).map L4))]) (fun k=>m.cells.length - k) (0) (⟨Nat.zero_le _,Nat.zero_le _⟩) ?_ ?_ ?_
 exact fz ⟨sr,sr,sr,sr,trivial⟩
 exact gz ⟨R,R,R,trivial⟩
 intro k hk0
 obtain ⟨hk,hk4⟩:=hk0
 refine zs<|zr<|zm R R<|zm R R<|XL.len R R R Tryz.underlying28 fun hl12=>zp (Au R R R)<|zm R R<|?_
 refine XL.dec 14 R (fun g14=> ?_) (fun g14=> ?_)
 refine zm R R<|zp (Au R R R)<|zq R R R<|zn<|?_
 refine zd R (fun c17=> ?_) (fun c17=> ?_)
 have hkl:k<m.cells.length:=by omega
 obtain ⟨x,hx⟩:=Av hkl
 have hr:=h x (List.mem_of_getElem? hx)
 have htl:(m.cells.take k).length=k:=by rw [List.length_take];omega
 refine zi<|zs<|Ah<|zr<|XL.step R (Ap 5 (l:= [.d (.v (.slice none 0 0)), .d (.v (.slice none 0 0))]) R F8 (by kernel_rfl))<|zn<|zs<|Cq 15 [] (by kernel_rfl) (by kernel_rfl) (by kernel_rfl) (by kernel_rfl) (by decide)<|yp (Aa R R G6)<|yp (Ab R R Pc R R)<|ym R R<|ym R R<|yp (At R R R E8 (hx))<|yp (G1 R R G6)<|?_
 refine yp (Bj R R Pc)<|ym R R<|ym R R<|yp (At R R R E8 (hx))<|yp (G1 R R G6)<|yp (Bj R R Pc)<|yp (Kk R R Tryz.underlying75)<|yp (Fq R R R)<|yp (Jm R R R Od)<|?_
 refine ChK.nil ⟨by kernel_rfl, ?_⟩
 refine XL.step R (A3 R Akp (.nil 7301 _ _) (Src.sl (by omega)) (by unfold maxLen;simp;omega) (by simp;omega))<|XL.rowq (i:=7301) (l':=(x.clefs.take 8).map Cf.c) R (R)<|zp (Aa R R G6)<|XL.step R (Af (l':= [.own 7301, .d (.v (.slice none 0 0))]) R R R R Agl R lb (by kernel_rfl))<|zn<|zs<|zr<|za R R<|zn<|Ah<|?_
 refine Ew 7302 5 1 82 2 (l':= [.own 7301, .own 7302]) R R (by decide) (by kernel_rfl)<|Uc (i:=7302) (l':= []) R R<|?_
 refine A0 (α:=Nat) (fun j=>j≤x.voices.length∧j≤3) (fun j=>mkF [(1, .ptr 1 0 0),(2, .ptr 2 0 0),(3, .d (.sl 2 (m.cells.map Ce.c))),(4, .d (dI k)),(5, .ptr 5 0 0),(6, .d (dI j))]) (fun j=>mkH [(1, .box [.d (dI m.h.site), .d (dI m.h.num), .d (dI m.h.m.count), .d (dI m.h.m.unit), .d (dI m.h.m.g0), .d (dI m.h.m.g1), .d (dI m.h.m.g2), .d (dI m.h.m.g3), .d (dI m.h.m.g4), .d (dI m.h.m.g5), .d (dI m.h.len), .d (dI m.h.fifths), .d (dB m.h.start), .d (dI m.h.fin), .d (dI m.h.ends), .d (dI m.h.jump), .d (dI m.h.labels), .d (dI m.h.swing), .d (dI m.h.brk), .d (.v (.string ⟨m.h.reh.toArray⟩)), .d (.sl 3 (m.tempi.map Tm.c)), .own 7402]),(2, .box [.d (dI 0), .d (dI 0), .d (dI 0), .d (dI 0), .d (dI 0), .d (dI 0), .d (dI 0), .d (dI 0), .d (dI 0), .d (dI 0), .d (dI 0), .d (dI 0), .d (dB false), .d (dI 0), .d (dI 0), .d (dI 0), .d (dI 0), .d (dI 0), .d (dI 0), .d (.v (.string ⟨#[]⟩)), .d (.v (.slice none 0 0)), .d (.v (.slice none 0 0))]),(5, .box [.own 7301, .own 7302]),(7301, .row 84 2 ((x.clefs.take 8).map Cf.c)),(7302, .tree 82 2 [] ((x.voices.take j).map M8)),(7402, .tree 78 2 [] ((m.cells.take k).map L4))]) (fun j=>x.voices.length - j) (0) (⟨Nat.zero_le _,Nat.zero_le _⟩) ?_ ?_ ?_
 exact fz ⟨sr,sr,sr,sr,sr,sr,trivial⟩
 exact gz ⟨R,R,R,R,R,R,trivial⟩
 intro j hk2
 obtain ⟨hj,hj3⟩:=hk2
 refine zs<|zr<|zm R R<|zm R R<|zm R R<|zp (At R R R E8 (hx))<|zp (G1 R R Cs)<|zp (Bj R R Gi)<|XL.len R R R Tryz.underlying76 fun hl43=>zp (Au R R R)<|zm R R<|?_
 refine XL.dec 45 R (fun g45=> ?_) (fun g45=> ?_)
 refine zm R R<|zp (Au R R R)<|zq R R R<|zn<|?_
 refine zd R (fun c48=> ?_) (fun c48=> ?_)
 have hjl:j<x.voices.length:=by omega
 obtain ⟨y,hy⟩:=Av hjl
 have hq:=hr y (List.mem_of_getElem? hy)
 have hul:(x.voices.take j).length=j:=by rw [List.length_take];omega
 refine zi<|zs<|Ah<|Cq 12 [7201,7202,62] (by kernel_rfl) (by kernel_rfl) (by kernel_rfl) (by kernel_rfl) (by decide)<|yp (Aa R R Cs)<|yp (Ab R R Gi R R)<|ym R R<|ym R R<|yp (At R R R E8 (hx))<|yp (G1 R R Cs)<|yp (Bj R R Gi)<|ym R R<|yp (At R R R F1 (hy))<|?_
 refine yp (Ae (s':= .d (.agg (Vo.c y))) (A6 R R Aq lb) (by kernel_rfl))<|ChK.cons R (CStep.callS R (Xw _ (by assumption)) R (Nl (by kernel_rfl)))<|ChK.cons R (CStep.slice1 62 (cs:= [.own 7201, .own 7202]) R Tryz.underlying76 Bm Ba R R (by decide) (by decide) R)<|?_
 refine ChK.nil ⟨by kernel_rfl, ?_⟩
 refine XL.step R (Hb [7201,7202] (lr:=((x.voices.take (j+1)).map M8).set j [.own 7201, .own 7202]) R Oz (.own R) (SrcT.ownS R) (by unfold maxLen;simp;omega) (by simp;omega) (O3 hy _) (Cu (Mu [] _) (D9 (R) (R)) _) R)<|?_
 refine XL.closeR (i:=7302) (j:=7201) (k:=j) (m:=0) (l':=((x.voices.take (j+1)).map M8).set j [.row 59 13 ((((A9 y).evs).map Ev.c).map (·.map T.d)), .own 7202]) [7202] R R R (B5 (Ei hy)) R (List.set_set ..) (Cu (Mu [] _) (D9 (Fn (T.inLL_d _ _)) (R)) _) R<|?_
 refine XL.closeR (i:=7302) (j:=7202) (k:=j) (m:=1) (l':=((x.voices.take (j+1)).map M8).set j [.row 59 13 ((((A9 y).evs).map Ev.c).map (·.map T.d)), .row 157 4 ((((A9 y).tups).map Tp.c).map (·.map T.d))]) [] R R R (B5 (Ei hy)) R (List.set_set ..) (Cu (Mu [] _) (D9 (Fn (T.inLL_d _ _)) (Fn (T.inLL_d _ _))) _) R<|?_
 refine XL.rowqT (i:=7302) (l':=(x.voices.take (j+1)).map M8) [] R (set_same (Ei hy)) (Mu [] _)<|zp (Aa R R Cs)<|XL.step R (Af (l':= [.own 7301, .own 7302]) R R R R Le R lb (by kernel_rfl))<|zn<|Ag (by kernel_rfl)<|zm R R<|zp (An R R R (by omega) (by omega))<|za R R<|zn<|?_
 exact Am (j+1) (⟨by omega,by omega⟩) (by omega) (fz ⟨sr,sr,sr,sr,sr,sr,trivial⟩) (gz ⟨rfl,rfl,rfl,rfl,rfl,rfl,trivial⟩)
 refine As<|Ag (by kernel_rfl)<|zp (Aa R R B1)<|zp (Ab R R Eb R R)<|zp (Ac (Ad R R I3 R lb))<|XL.step R (Wh 68 (cs:= [.own 7301, .own 7302]) R Tryz.underlying28 Ld F8 R R (by decide) (by decide))<|?_
 refine XL.step R (Hb [7301,7302] (lr:=((m.cells.take (k+1)).map L4).set k [.own 7301, .own 7302]) R Aad (.own R) (SrcT.ownS R) (by unfold maxLen;simp;omega) (by simp;omega) (O3 hx _) (Cu (Kb [] _) (D9 (R) (R)) _) R)<|?_
 have hvt:(x.voices.take j).map M8=(M9 x).voices.map Vo.t:=by rw [Ik (l:=x.voices) hj3 (by omega),Yv];rfl
 refine XL.closeR (i:=7402) (j:=7301) (k:=k) (m:=0) (l':=((m.cells.take (k+1)).map L4).set k [.row 84 2 (((x.clefs.take 8).map Cf.c).map (·.map T.d)), .own 7302]) [7302] R R R (B5 (Ei hx)) R (List.set_set ..) (Cu (Kb [] _) (D9 (Fn (T.inLL_d _ _)) (R)) _) R<|?_
 refine XL.closeT (i:=7402) (j:=7302) (k:=k) (m:=1) (l':=((m.cells.take (k+1)).map L4).set k [.row 84 2 (((x.clefs.take 8).map Cf.c).map (·.map T.d)), .row 82 2 ((x.voices.take j).map M8)]) [] R R R (B5 (Ei hx)) R (List.set_set ..) (Cu (Kb [] _) (D9 (Fn (T.inLL_d _ _)) (Fn (T.nil_in (Mu [] _) _))) _) R<|?_
 refine XL.rowqT (i:=7402) (l':=(m.cells.take (k+1)).map L4) [] R (by rw [hvt];exact set_same (Ei hx)) (Kb [] _)<|zp (Aa R R B1)<|?_
 refine XL.step R (Af (l':= [.d (dI m.h.site), .d (dI m.h.num), .d (dI m.h.m.count), .d (dI m.h.m.unit), .d (dI m.h.m.g0), .d (dI m.h.m.g1), .d (dI m.h.m.g2), .d (dI m.h.m.g3), .d (dI m.h.m.g4), .d (dI m.h.m.g5), .d (dI m.h.len), .d (dI m.h.fifths), .d (dB m.h.start), .d (dI m.h.fin), .d (dI m.h.ends), .d (dI m.h.jump), .d (dI m.h.labels), .d (dI m.h.swing), .d (dI m.h.brk), .d (.v (.string ⟨m.h.reh.toArray⟩)), .d (.sl 3 (m.tempi.map Tm.c)), .own 7402]) R R R R Uk R lb (by kernel_rfl))<|?_
 refine zn<|Ag (by kernel_rfl)<|zm R R<|zp (An R R R (by omega) (by omega))<|za R R<|zn<|?_
 exact Am (k+1) (⟨by omega,by omega⟩) (by omega) (fz ⟨sr,sr,sr,sr,trivial⟩) (gz ⟨rfl,rfl,rfl,trivial⟩)
 refine zk 2 R<|zq R R R<|zn<|A8 (by kernel_rfl) R<|As<|Ag (by kernel_rfl)<|zp (Aa R R B1)<|zp (Ab R R Eb R R)<|zp (Ac (Ad R R I3 R lb))<|XL.step R (Wh 68 (cs:= [.own 7301, .own 7302]) R Tryz.underlying28 Ld F8 R R (by decide) (by decide))<|?_
 refine XL.step R (Hb [7301,7302] (lr:=((m.cells.take (k+1)).map L4).set k [.own 7301, .own 7302]) R Aad (.own R) (SrcT.ownS R) (by unfold maxLen;simp;omega) (by simp;omega) (O3 hx _) (Cu (Kb [] _) (D9 (R) (R)) _) R)<|?_
 have hvt:(x.voices.take j).map M8=(M9 x).voices.map Vo.t:=by rw [Ik (l:=x.voices) hj3 (by omega),Yv];rfl
 refine XL.closeR (i:=7402) (j:=7301) (k:=k) (m:=0) (l':=((m.cells.take (k+1)).map L4).set k [.row 84 2 (((x.clefs.take 8).map Cf.c).map (·.map T.d)), .own 7302]) [7302] R R R (B5 (Ei hx)) R (List.set_set ..) (Cu (Kb [] _) (D9 (Fn (T.inLL_d _ _)) (R)) _) R<|?_
 refine XL.closeT (i:=7402) (j:=7302) (k:=k) (m:=1) (l':=((m.cells.take (k+1)).map L4).set k [.row 84 2 (((x.clefs.take 8).map Cf.c).map (·.map T.d)), .row 82 2 ((x.voices.take j).map M8)]) [] R R R (B5 (Ei hx)) R (List.set_set ..) (Cu (Kb [] _) (D9 (Fn (T.inLL_d _ _)) (Fn (T.nil_in (Mu [] _) _))) _) R<|?_
 refine XL.rowqT (i:=7402) (l':=(m.cells.take (k+1)).map L4) [] R (by rw [hvt];exact set_same (Ei hx)) (Kb [] _)<|zp (Aa R R B1)<|?_
 refine XL.step R (Af (l':= [.d (dI m.h.site), .d (dI m.h.num), .d (dI m.h.m.count), .d (dI m.h.m.unit), .d (dI m.h.m.g0), .d (dI m.h.m.g1), .d (dI m.h.m.g2), .d (dI m.h.m.g3), .d (dI m.h.m.g4), .d (dI m.h.m.g5), .d (dI m.h.len), .d (dI m.h.fifths), .d (dB m.h.start), .d (dI m.h.fin), .d (dI m.h.ends), .d (dI m.h.jump), .d (dI m.h.labels), .d (dI m.h.swing), .d (dI m.h.brk), .d (.v (.string ⟨m.h.reh.toArray⟩)), .d (.sl 3 (m.tempi.map Tm.c)), .own 7402]) R R R R Uk R lb (by kernel_rfl))<|?_
 refine zn<|Ag (by kernel_rfl)<|zm R R<|zp (An R R R (by omega) (by omega))<|za R R<|zn<|?_
 exact Am (k+1) (⟨by omega,by omega⟩) (by omega) (fz ⟨sr,sr,sr,sr,trivial⟩) (gz ⟨rfl,rfl,rfl,trivial⟩)
 refine As<|zr<|XL.step R (Bo 7401 R Tryz.underlying27 Qd Mz R R (by omega) (by omega))<|zp (Aa R R Ek)<|zp (Ab R R Lf R R)<|zp (Aa R R Ek)<|zp (Ab R R Lf R R)<|XL.len R R R Tryz.underlying27 fun hl76=>zp (Fq R R R)<|zp (Jm R R R Mn)<|?_
 refine XL.step R (A3 R Aae (.own R) (Src.sl (by omega)) (by unfold maxLen;simp;omega) (by simp;omega))<|zp (Aa R R Ek)<|?_
 refine XL.step R (Af (l':= [.d (dI m.h.site), .d (dI m.h.num), .d (dI m.h.m.count), .d (dI m.h.m.unit), .d (dI m.h.m.g0), .d (dI m.h.m.g1), .d (dI m.h.m.g2), .d (dI m.h.m.g3), .d (dI m.h.m.g4), .d (dI m.h.m.g5), .d (dI m.h.len), .d (dI m.h.fifths), .d (dB m.h.start), .d (dI m.h.fin), .d (dI m.h.ends), .d (dI m.h.jump), .d (dI m.h.labels), .d (dI m.h.swing), .d (dI m.h.brk), .d (.v (.string ⟨m.h.reh.toArray⟩)), .own 7401, .own 7402]) R R R R Ul R lb (by kernel_rfl))<|?_
 refine znr<|zp (Aa R R Iz)<|zp (Ab R R Jf R R)<|zp (Aa R R Iz)<|zp (Ab R R Jf R R)<|zp (Lt R R Tryz.underlying9)<|zp (Fq R R R)<|zp (Vr R R R Tryz.underlying9)<|zp (Aa R R Iz)<|?_
 refine XL.step R (Af (l':= [.d (dI m.h.site), .d (dI m.h.num), .d (dI m.h.m.count), .d (dI m.h.m.unit), .d (dI m.h.m.g0), .d (dI m.h.m.g1), .d (dI m.h.m.g2), .d (dI m.h.m.g3), .d (dI m.h.m.g4), .d (dI m.h.m.g5), .d (dI m.h.len), .d (dI m.h.fifths), .d (dB m.h.start), .d (dI m.h.fin), .d (dI m.h.ends), .d (dI m.h.jump), .d (dI m.h.labels), .d (dI m.h.swing), .d (dI m.h.brk), .d (.v (.string ⟨(m.h.reh.take 30).toArray⟩)), .own 7401, .own 7402]) R R R R Aln R lb (by kernel_rfl))<|?_
 refine znr<|zp (Ac (Ad R R A1 R lb))<|?_
 refine XL.step R (Af (l':= [.d (dI m.h.site), .d (dI m.h.num), .d (dI m.h.m.count), .d (dI m.h.m.unit), .d (dI m.h.m.g0), .d (dI m.h.m.g1), .d (dI m.h.m.g2), .d (dI m.h.m.g3), .d (dI m.h.m.g4), .d (dI m.h.m.g5), .d (dI m.h.len), .d (dI m.h.fifths), .d (dB m.h.start), .d (dI m.h.fin), .d (dI m.h.ends), .d (dI m.h.jump), .d (dI m.h.labels), .d (dI m.h.swing), .d (dI m.h.brk), .d (.v (.string ⟨(m.h.reh.take 30).toArray⟩)), .own 7401, .own 7402]) R R R R Cc R lb (by kernel_rfl))<|?_
 refine zn<|zt<|?_
 exact ⟨C1 R (RVS.eq (RVS.cells (i:=2) R R R A1 lb) R),HSub.cons (R) (HSub.cons (by rw [Ik (l:=m.cells) hk4 (by omega),Yx];rfl) (HSub.nil))⟩
 refine zk 2 R<|zq R R R<|zn<|A8 (by kernel_rfl) R<|As<|zr<|XL.step R (Bo 7401 R Tryz.underlying27 Qd Mz R R (by omega) (by omega))<|zp (Aa R R Ek)<|zp (Ab R R Lf R R)<|zp (Aa R R Ek)<|zp (Ab R R Lf R R)<|XL.len R R R Tryz.underlying27 fun hl76=>zp (Fq R R R)<|zp (Jm R R R Mn)<|?_
 refine XL.step R (A3 R Aae (.own R) (Src.sl (by omega)) (by unfold maxLen;simp;omega) (by simp;omega))<|zp (Aa R R Ek)<|?_
 refine XL.step R (Af (l':= [.d (dI m.h.site), .d (dI m.h.num), .d (dI m.h.m.count), .d (dI m.h.m.unit), .d (dI m.h.m.g0), .d (dI m.h.m.g1), .d (dI m.h.m.g2), .d (dI m.h.m.g3), .d (dI m.h.m.g4), .d (dI m.h.m.g5), .d (dI m.h.len), .d (dI m.h.fifths), .d (dB m.h.start), .d (dI m.h.fin), .d (dI m.h.ends), .d (dI m.h.jump), .d (dI m.h.labels), .d (dI m.h.swing), .d (dI m.h.brk), .d (.v (.string ⟨m.h.reh.toArray⟩)), .own 7401, .own 7402]) R R R R Ul R lb (by kernel_rfl))<|?_
 refine znr<|zp (Aa R R Iz)<|zp (Ab R R Jf R R)<|zp (Aa R R Iz)<|zp (Ab R R Jf R R)<|zp (Lt R R Tryz.underlying9)<|zp (Fq R R R)<|zp (Vr R R R Tryz.underlying9)<|zp (Aa R R Iz)<|?_
 refine XL.step R (Af (l':= [.d (dI m.h.site), .d (dI m.h.num), .d (dI m.h.m.count), .d (dI m.h.m.unit), .d (dI m.h.m.g0), .d (dI m.h.m.g1), .d (dI m.h.m.g2), .d (dI m.h.m.g3), .d (dI m.h.m.g4), .d (dI m.h.m.g5), .d (dI m.h.len), .d (dI m.h.fifths), .d (dB m.h.start), .d (dI m.h.fin), .d (dI m.h.ends), .d (dI m.h.jump), .d (dI m.h.labels), .d (dI m.h.swing), .d (dI m.h.brk), .d (.v (.string ⟨(m.h.reh.take 30).toArray⟩)), .own 7401, .own 7402]) R R R R Aln R lb (by kernel_rfl))<|?_
 refine znr<|zp (Ac (Ad R R A1 R lb))<|?_
 refine XL.step R (Af (l':= [.d (dI m.h.site), .d (dI m.h.num), .d (dI m.h.m.count), .d (dI m.h.m.unit), .d (dI m.h.m.g0), .d (dI m.h.m.g1), .d (dI m.h.m.g2), .d (dI m.h.m.g3), .d (dI m.h.m.g4), .d (dI m.h.m.g5), .d (dI m.h.len), .d (dI m.h.fifths), .d (dB m.h.start), .d (dI m.h.fin), .d (dI m.h.ends), .d (dI m.h.jump), .d (dI m.h.labels), .d (dI m.h.swing), .d (dI m.h.brk), .d (.v (.string ⟨(m.h.reh.take 30).toArray⟩)), .own 7401, .own 7402]) R R R R Cc R lb (by kernel_rfl))<|?_
 refine zn<|zt<|?_
 exact ⟨C1 R (RVS.eq (RVS.cells (i:=2) R R R A1 lb) R),HSub.cons (R) (HSub.cons (by rw [Ik (l:=m.cells) hk4 (by omega),Yx];rfl) (HSub.nil))⟩
theorem XS.xc2 {P:Program} {F:FuncId} {ds:List D} {s:S} {i j:Nat} {e e2:TypeId} {sz sz2:Nat} {l l2:List (List D)} {t:List (List T)} {d:D} (hx:XS P F ds s [(i, .row e sz l),(j, .tree e2 sz2 [] t)]) (hj:((mkH [(i, .row e sz l),(j, .tree e2 sz2 [] t)]).frz i (.sl sz l)) j=some (.tree e2 sz2 [] t)) (hf:T.fzLL t=true) (ht:T.toDLL t=l2)
  (hd:norm ((s.frz i (.sl sz l)).frz j (.sl sz2 l2))= .d d):XC P F ds (fun r=>r=d):=
 ⟨hx.callable, fun H w vs h1 h2 h3 => (hx.calls H w vs h1 h2 h3).mono fun e w' ⟨H', β, u, he, k1, k2, k3⟩ => by
  obtain ⟨H2,q1,q2,q3⟩:=k1.freeze (i:=i) (by simp only [mkH];exact Xh.set_same _ _ _)
  obtain ⟨H3,p1,p2,p3⟩:=q3.freezeT (i:=j) hj hf
  rw [ht] at p2
  have hv:=VS.norm (((k2.mono (q1.trans p1) fun _ _ h=>h).frz i _ (fun L hL=>(q2 L hL).mono p1)).frz j _ p2)
  rw [hd] at hv
  exact ⟨H3, u, d, he, rfl, p3.ext, fun b o u e => p3.new b o u e, p3.imm, p3.below, En hv⟩⟩
theorem Alt (m:Ms) (h:m.room):XC Tryz.prog 14 [.agg (Ms.c m)] (fun r=>r= .agg (Ms.c (A4 m))):=(Ys m h).xc2 rfl (Ces.t_fz _) (Ces.t_D _) rfl
end Go.Proofs.YtaafemnkamfgnaaGreat
namespace Go.Proofs.YtaafemnkamfgnaaGreat
open Go.RowKit
structure DelG {α:Type} (p:α→Bool) (xs:List α) (j i:Nat) (W:List α):Prop where
 lt:i<j
 le:j≤xs.length
 len:W.length=xs.length
 take:W.take i=(xs.take j).filter p
 drop:W.drop j=xs.drop j
section
variable {α:Type} {p:α→Bool} {xs W:List α} {j i:Nat}
theorem Afs {l:List α} {k:Nat} {g:α} (h:l[k]? =some g) (hg:p g=false):(l.take (k+1)).filter p=(l.take k).filter p:=by rw [By h,List.filter_append,List.filter_cons_of_neg (by rw [hg];exact Bool.false_ne_true),List.filter_nil,List.append_nil]
theorem T6 {l:List α} {k:Nat} {g:α} (h:l[k]? =some g) (hg:p g=true):(l.take (k+1)).filter p=(l.take k).filter p++ [g]:=by rw [By h,List.filter_append,List.filter_cons_of_pos hg,List.filter_nil]
theorem DelG.get (h:DelG p xs j i W) {g:α} (hg:xs[j]? =some g):W[j]? =some g:=by
 have:=congrArg (fun l=>l[0]?) h.drop
 simpa [List.getElem?_drop,hg] using this
theorem DelG.keep (h:DelG p xs j i W) {g:α} (hg:xs[j]? =some g) (h0:p g=false):DelG p xs (j+1) i W:=by
 have:=(List.getElem?_eq_some_iff.1 hg).1
 have:=h.lt
 refine ⟨by omega,by omega,h.len,by rw [Afs hg h0];exact h.take, ?_⟩
 rw [←List.drop_drop,h.drop,List.drop_drop]
theorem DelG.put (h:DelG p xs j i W) {g:α} (hg:xs[j]? =some g) (h0:p g=true):DelG p xs (j+1) (i+1) (W.set i g):=by
 have h1:=(List.getElem?_eq_some_iff.1 hg).1
 have h2:=h.lt
 have h3:=h.len
 refine ⟨by omega,by omega,by rw [List.length_set];exact h3, ?_, ?_⟩
 ·rw [T6 hg h0, ←h.take,List.take_succ_eq_append_getElem (by rw [List.length_set];omega),List.getElem_set_self,List.take_set_of_le (Nat.le_refl _)]
 ·rw [List.drop_set_of_lt (by omega), ←List.drop_drop,h.drop,List.drop_drop]
theorem DelG.start {k:Nat} {g:α} (hg:xs[k]? =some g) (h0:p g=false) (hk:(xs.take k).filter p=xs.take k):DelG p xs (k+1) k xs:=
 ⟨by omega,by have:=(List.getElem?_eq_some_iff.1 hg).1;omega,rfl,by rw [Afs hg h0,hk],rfl⟩
theorem DelG.fin (h:DelG p xs j i W) (hj:j=xs.length):W.take i=xs.filter p:=by rw [h.take,hj,List.take_length]
theorem DelG.clr (h:DelG p xs j i W) {g:α→List D} {z:α} {zs:List D} (hz:zs=g z):sets (W.map g) i (List.replicate ((W.map g).length - i) zs)=(W.take i++List.replicate (W.length - i) z).map g:=by
 have:=h.lt;have:=h.le;have:=h.len
 subst hz
 rw [Kc _ _ _ (by rw [List.length_replicate,List.length_map];omega),List.drop_eq_nil_of_le (by rw [List.length_replicate,List.length_map];omega),List.append_nil,List.map_append,List.map_take,List.map_replicate,List.length_map]
theorem DelG.cut (h:DelG p xs j i W) {g:α→List D} {z:α}:(((W.take i++List.replicate (W.length - i) z).map g).take i)=(W.take i).map g:=by
 have:=h.lt;have:=h.le;have:=h.len
 rw [←List.map_take,List.take_append_of_le_length (by rw [List.length_take];omega),List.take_take,Nat.min_self]
end
def cfK (n:Int) (x:Cf):Bool:=decide (¬n≤x.tk)
def tmK (n:Int) (x:Tm):Bool:=decide (¬n≤x.tk)
theorem Ak3 {n:Int} {x:Cf} (h:n≤x.tk):cfK n x=false:=by rw [cfK,decide_eq_false];exact fun k=>k h
theorem Af4 {n:Int} {x:Cf} (h:¬n≤x.tk):cfK n x=true:=by rw [cfK,decide_eq_true h]
theorem Aig {n:Int} {x:Tm} (h:n≤x.tk):tmK n x=false:=by rw [tmK,decide_eq_false];exact fun k=>k h
theorem Ae0 {n:Int} {x:Tm} (h:¬n≤x.tk):tmK n x=true:=by rw [tmK,decide_eq_true h]
def C2 (old p:Pl) (c:Ce):Ce:=⟨c.clefs.filter (cfK p.len),c.voices.map fun v=>(Et v old p).1⟩
def I9 (old p:Pl):List Vo→Int
 | []=>0
 |v::l=>if (Et v old p).2≠0 then (Et v old p).2 else I9 old p l
def Kv (old p:Pl):List Ce→Int
 | []=>0
 |c::l=>if I9 old p c.voices≠0 then I9 old p c.voices else Kv old p l
theorem Anl {old p:Pl} {l:List Vo} {k:Nat} {v:Vo} (hv:l[k]? =some v) (h:(Et v old p).2=0):I9 old p (l.drop k)=I9 old p (l.drop (k+1)):=by rw [B7 hv,I9,if_neg (by omega)]
theorem Z5 {old p:Pl} {l:List Vo} {k:Nat} {v:Vo} (hv:l[k]? =some v) (h:(Et v old p).2≠0):I9 old p (l.drop k)=(Et v old p).2:=by rw [B7 hv,I9,if_pos h]
theorem Z6 {old p:Pl} {l:List Ce} {k:Nat} {c:Ce} (hc:l[k]? =some c) (h:I9 old p c.voices=0):Kv old p (l.drop k)=Kv old p (l.drop (k+1)):=by rw [B7 hc,Kv,if_neg (by omega)]
theorem Anm {old p:Pl} {l:List Ce} {k:Nat} {c:Ce} (hc:l[k]? =some c) (h:I9 old p c.voices≠0):Kv old p (l.drop k)=I9 old p c.voices:=by rw [B7 hc,Kv,if_pos h]
def Mh.z:Mh:=⟨0,0,Me.z,0,0,false,0,0,0,0,0,0, []⟩
def Ms.z:Ms:=⟨Mh.z, [], []⟩
def Ahj (m:Ms) (t:Me) (n:Int) (old p:Pl):Ms:=⟨m.h.sh t n,m.tempi.filter (tmK p.len),m.cells.map (C2 old p)⟩
def J3 (m:Ms) (t:Me) (n:Int):Int:=if mlE m.h.m m.h.len≠0 then mlE m.h.m m.h.len else if mlE t n≠0 then mlE t n else Kv (plS m.h.m m.h.len) (plS t n) m.cells
def Nr (m:Ms) (t:Me) (n:Int):Ms:=if J3 m t n≠0 then Ms.z else Ahj m t n (plS m.h.m m.h.len) (plS t n)
theorem Avf {m:Ms} {t:Me} {n:Int} (h:mlE m.h.m m.h.len≠0):J3 m t n=mlE m.h.m m.h.len∧Nr m t n=Ms.z:=by
 have e:J3 m t n=mlE m.h.m m.h.len:=by rw [J3,if_pos h]
 exact ⟨e,by rw [Nr,e,if_pos h]⟩
theorem As4 {m:Ms} {t:Me} {n:Int} (h:¬mlE m.h.m m.h.len≠0) (h2:mlE t n≠0):J3 m t n=mlE t n∧Nr m t n=Ms.z:=by
 have e:J3 m t n=mlE t n:=by rw [J3,if_neg h,if_pos h2]
 exact ⟨e,by rw [Nr,e,if_pos h2]⟩
theorem Ave {m:Ms} {t:Me} {n e:Int} (h:¬mlE m.h.m m.h.len≠0) (h2:¬mlE t n≠0) (h3:Kv (plS m.h.m m.h.len) (plS t n) m.cells=e) (h4:e≠0):J3 m t n=e∧Nr m t n=Ms.z:=by
 have e:J3 m t n=e:=by rw [J3,if_neg h,if_neg h2,h3]
 exact ⟨e,by rw [Nr,e,if_pos h4]⟩
theorem As3 {m:Ms} {t:Me} {n:Int} (h:¬mlE m.h.m m.h.len≠0) (h2:¬mlE t n≠0) (h3:Kv (plS m.h.m m.h.len) (plS t n) m.cells=0):J3 m t n=0∧Nr m t n=Ahj m t n (plS m.h.m m.h.len) (plS t n):=by
 have e:J3 m t n=0:=by rw [J3,if_neg h,if_neg h2,h3]
 exact ⟨e,by rw [Nr,e,if_neg (by decide)]⟩
theorem Vz {m m':Ms} {e e':Int} (h:e=e'∧m=m'):D.tup [.agg (Ms.c m'),dI e']= .tup [.agg (Ms.c m),dI e]:=by rw [h.1,h.2]
theorem Am6 (h:Mh) (t:Me) (n:Int) (A B:Option Addr) (n0 c0 n1 c1:Nat):XC Tryz.prog 16 [.agg [dI (h.sh t n).site,dI (h.sh t n).num,dI (h.sh t n).m.count,dI (h.sh t n).m.unit,dI (h.sh t n).m.g0,dI (h.sh t n).m.g1,dI (h.sh t n).m.g2,dI (h.sh t n).m.g3,dI (h.sh t n).m.g4,dI (h.sh t n).m.g5,dI (h.sh t n).len,dI (h.sh t n).fifths,dB (h.sh t n).start,dI (h.sh t n).fin,dI (h.sh t n).ends,dI (h.sh t n).jump,dI (h.sh t n).labels,dI (h.sh t n).swing,dI (h.sh t n).brk, .v (.string ⟨(h.sh t n).reh.toArray⟩), .v (.slice A n0 c0), .v (.slice B n1 c1)]] (fun r=>r= .tup [.agg (Pl.c (plS t n)),dI (mlE t n)]):=by
 have k:=Amn (h.sh t n) A B n0 c0 n1 c1
 have e1:plS (h.sh t n).m (h.sh t n).len=plS t n:=Ar7
 have e2:mlE (h.sh t n).m (h.sh t n).len=mlE t n:=U0
 rw [e1,e2] at k
 exact k
theorem Ai4 {t:Me} {n:Int} (h:¬mlE t n≠0):1≤(plS t n).len∧(plS t n).len≤15482880∧0≤(plS t n).off∧(plS t n).off≤123863040:=by
 have k:=Amj h
 have hl:=k.me.len
 rw [Al4 h]
 exact ⟨k.lo,k.hi,by simp only;omega,by simp only;have:=k.lo;omega⟩
end Go.Proofs.YtaafemnkamfgnaaGreat
namespace Go.Proofs.YtaafemnkamfgnaaGreat
open Go.RowKit
theorem Ap9 (m:Ms) (t:Me) (n:Int) (hF:m.fit) (hE:m.evs):XC Tryz.prog 28 [.agg (Ms.c m), .agg (Me.c t), .v (.int .i64 n)] (fun r=>r= .tup [.agg (Ms.c (Nr m t n)),dI (J3 m t n)]):=by
 refine Al Aem Tryz.func28 R R lb<|zr<|?_
 refine XL.step R (Ao 3 (l:= [.d (dI m.h.site), .d (dI m.h.num), .d (dI m.h.m.count), .d (dI m.h.m.unit), .d (dI m.h.m.g0), .d (dI m.h.m.g1), .d (dI m.h.m.g2), .d (dI m.h.m.g3), .d (dI m.h.m.g4), .d (dI m.h.m.g5), .d (dI m.h.len), .d (dI m.h.fifths), .d (dB m.h.start), .d (dI m.h.fin), .d (dI m.h.ends), .d (dI m.h.jump), .d (dI m.h.labels), .d (dI m.h.swing), .d (dI m.h.brk), .d (.v (.string ⟨m.h.reh.toArray⟩)), .d (.sl 3 (m.tempi.map Tm.c)), .d (.sl 2 (m.cells.map Ce.c))]) R R (by kernel_rfl))<|?_
 refine XL.step R (Ao 4 (l:= [.d (dI t.count), .d (dI t.unit), .d (dI t.g0), .d (dI t.g1), .d (dI t.g2), .d (dI t.g3), .d (dI t.g4), .d (dI t.g5)]) R R (by kernel_rfl))<|?_
 refine XL.step R (Ap 6 (l:= [.d (dI 0), .d (dI 0), .d (dI 0), .d (dI 0), .d (dI 0), .d (dI 0), .d (dI 0), .d (dI 0), .d (dI 0), .d (dI 0), .d (dI 0), .d (dI 0), .d (dB false), .d (dI 0), .d (dI 0), .d (dI 0), .d (dI 0), .d (dI 0), .d (dI 0), .d (.v (.string ⟨#[]⟩)), .d (.v (.slice none 0 0)), .d (.v (.slice none 0 0))]) R Bz (by kernel_rfl))<|za R R<|znr<|?_
 refine zp (Ae (s':= .d (.agg (Ms.c m))) (Ac (Ad R R A1 R lb)) (by kernel_rfl))<|XL.call1 R R (Amo m.h m.tempi m.cells) R<|zm R R<|zp (Ax R R R)<|zp (Ax R R R)<|XL.step R (Ap 8 (l:= [.d (dI 0), .d (dI 0), .d (dI 0), .d (dI 0), .d (dI 0), .d (dI 0), .d (dI 0), .d (dI 0), .d (dI 0), .d (dI 0)]) R H7 (by kernel_rfl))<|?_
 refine XL.step R (Af (l':= [.d (dI (plS m.h.m m.h.len).m.count), .d (dI (plS m.h.m m.h.len).m.unit), .d (dI (plS m.h.m m.h.len).m.g0), .d (dI (plS m.h.m m.h.len).m.g1), .d (dI (plS m.h.m m.h.len).m.g2), .d (dI (plS m.h.m m.h.len).m.g3), .d (dI (plS m.h.m m.h.len).m.g4), .d (dI (plS m.h.m m.h.len).m.g5), .d (dI (plS m.h.m m.h.len).off), .d (dI (plS m.h.m m.h.len).len)]) R R R R N0 R lb (by kernel_rfl))<|?_
 refine za R R<|zn<|zs<|zr<|zm R R<|zp (A5 R R R)<|zn<|?_
 refine zd R (fun c21=> ?_) (fun c21=> ?_)
 refine zr<|?_
 refine zp (Ae (s':= .d (.agg [dI 0,dI 0,dI 0,dI 0,dI 0,dI 0,dI 0,dI 0,dI 0,dI 0,dI 0,dI 0,dB false,dI 0,dI 0,dI 0,dI 0,dI 0,dI 0, .v (.string ⟨#[]⟩), .v (.slice none 0 0), .v (.slice none 0 0)])) (Ac (Ay (r:= [.d (dI 0), .d (dI 0), .d (dI 0), .d (dI 0), .d (dI 0), .d (dI 0), .d (dI 0), .d (dI 0), .d (dI 0), .d (dI 0), .d (dI 0), .d (dI 0), .d (dB false), .d (dI 0), .d (dI 0), .d (dI 0), .d (dI 0), .d (dI 0), .d (dI 0), .d (.v (.string ⟨#[]⟩)), .d (.v (.slice none 0 0)), .d (.v (.slice none 0 0))]) R Dc Bz (by kernel_rfl))) (by kernel_rfl))<|?_
 refine zm R R<|XL.step R (Af (l':= [.d (dI 0), .d (dI 0), .d (dI 0), .d (dI 0), .d (dI 0), .d (dI 0), .d (dI 0), .d (dI 0), .d (dI 0), .d (dI 0), .d (dI 0), .d (dI 0), .d (dB false), .d (dI 0), .d (dI 0), .d (dI 0), .d (dI 0), .d (dI 0), .d (dI 0), .d (.v (.string ⟨#[]⟩)), .d (.v (.slice none 0 0)), .d (.v (.slice none 0 0))]) R R R R Cc R lb (by kernel_rfl))<|za R R<|zn<|zt<|?_
 exact Az R (RV.sub (RV.cells R R R A1 lb R) (.agg (.cons (.same R) (.cons (.same R) (.cons (.same R) (.cons (.same R) (.cons (.same R) (.cons (.same R) (.cons (.same R) (.cons (.same R) (.cons (.same R) (.cons (.same R) (.cons (.same R) (.cons (.same R) (.cons (.same R) (.cons (.same R) (.cons (.same R) (.cons (.same R) (.cons (.same R) (.cons (.same R) (.cons (.same R) (.cons (.same R) (.cons (.nil 3) (.cons (.nil 2) (.nil))))))))))))))))))))))))) (RV.tmp R R) (Vz (Avf c21))
 refine zi<|zs<|?_
 refine M3 9 10 [7401,7402,10] id 10 (T0 10 (.box [.d (dI (m.h.sh t n).site), .d (dI (m.h.sh t n).num), .d (dI (m.h.sh t n).m.count), .d (dI (m.h.sh t n).m.unit), .d (dI (m.h.sh t n).m.g0), .d (dI (m.h.sh t n).m.g1), .d (dI (m.h.sh t n).m.g2), .d (dI (m.h.sh t n).m.g3), .d (dI (m.h.sh t n).m.g4), .d (dI (m.h.sh t n).m.g5), .d (dI (m.h.sh t n).len), .d (dI (m.h.sh t n).fifths), .d (dB (m.h.sh t n).start), .d (dI (m.h.sh t n).fin), .d (dI (m.h.sh t n).ends), .d (dI (m.h.sh t n).jump), .d (dI (m.h.sh t n).labels), .d (dI (m.h.sh t n).swing), .d (dI (m.h.sh t n).brk), .d (.v (.string ⟨(m.h.sh t n).reh.toArray⟩)), .own 7401, .own 7402])) (by kernel_rfl) (by kernel_rfl) (by kernel_rfl) (by kernel_rfl) R (by decide)<|?_
 refine ChMK.bf R (CStep.pure (Ae (s':= .d (.agg (Ms.c m))) (Ac (Ad R R A1 R lb)) (by kernel_rfl))) (by conv=>lhs;whnf)<|?_
 refine ChMK.bfS R (CStep.callS R (Qt _ (by assumption)) R (Nl (by kernel_rfl))) (by conv=>lhs;whnf) (by simp only [List.forall_mem_cons];exact ⟨rfl,⟨rfl,fun p hp=>(by cases hp)⟩⟩) (by simp only [List.forall_mem_cons];exact ⟨rfl,⟨rfl,fun p hp=>(by cases hp)⟩⟩)<|?_
 refine ChMK.bf R (CStep.pure (Ae (s':= .d (.agg (Me.c t))) (Ac (Ad R R Br R lb)) (by kernel_rfl))) (by conv=>lhs;whnf)<|?_
 refine ChMK.bf R (CStep.pure (Ak R (by conv=>lhs;whnf))) (by conv=>lhs;whnf)<|?_
 refine ChMK.bf R (CStep.callP [7401,7402] R [.agg [.d (dI m.h.site), .d (dI m.h.num), .d (dI m.h.m.count), .d (dI m.h.m.unit), .d (dI m.h.m.g0), .d (dI m.h.m.g1), .d (dI m.h.m.g2), .d (dI m.h.m.g3), .d (dI m.h.m.g4), .d (dI m.h.m.g5), .d (dI m.h.len), .d (dI m.h.fifths), .d (dB m.h.start), .d (dI m.h.fin), .d (dI m.h.ends), .d (dI m.h.jump), .d (dI m.h.labels), .d (dI m.h.swing), .d (dI m.h.brk), .d (.v (.string ⟨m.h.reh.toArray⟩)), .own 7401, .own 7402], .d (.agg (Me.c t)), .d (dI n)] R (s:= .tup [.agg [.d (dI (m.h.sh t n).site), .d (dI (m.h.sh t n).num), .d (dI (m.h.sh t n).m.count), .d (dI (m.h.sh t n).m.unit), .d (dI (m.h.sh t n).m.g0), .d (dI (m.h.sh t n).m.g1), .d (dI (m.h.sh t n).m.g2), .d (dI (m.h.sh t n).m.g3), .d (dI (m.h.sh t n).m.g4), .d (dI (m.h.sh t n).m.g5), .d (dI (m.h.sh t n).len), .d (dI (m.h.sh t n).fifths), .d (dB (m.h.sh t n).start), .d (dI (m.h.sh t n).fin), .d (dI (m.h.sh t n).ends), .d (dI (m.h.sh t n).jump), .d (dI (m.h.sh t n).labels), .d (dI (m.h.sh t n).swing), .d (dI (m.h.sh t n).brk), .d (.v (.string ⟨(m.h.sh t n).reh.toArray⟩)), .own 7401, .own 7402], .d (dI (mlE t n))]) (fun ρ=>Alu m.h _ _ _ _ _ _ t n) R R R R) (by conv=>lhs;whnf)<|?_
 refine ChMK.bf R (CStep.pure (Ak R (by conv=>lhs;whnf))) (by conv=>lhs;whnf)<|?_
 refine ChMK.bf R (CStep.pure (Zc R R R)) (by conv=>lhs;whnf)<|?_
 refine ChMK.fr R R (CStep.pure (Zc R R R)) (CStep.pure (Zc R R R)) (by exact rfl)<|?_
 refine ChMK.bfO R (CStep.allocN 10 (l:= [.d (dI 0), .d (dI 0), .d (dI 0), .d (dI 0), .d (dI 0), .d (dI 0), .d (dI 0), .d (dI 0), .d (dI 0), .d (dI 0), .d (dI 0), .d (dI 0), .d (dB false), .d (dI 0), .d (dI 0), .d (dI 0), .d (dI 0), .d (dI 0), .d (dI 0), .d (.v (.string ⟨#[]⟩)), .d (.v (.slice none 0 0)), .d (.v (.slice none 0 0))]) R Bz R R) (by conv=>lhs;whnf) (fun _ _=>Amm _ _)<|?_
 refine ChMK.mu R (Aqa (l2:= [.d (dI (m.h.sh t n).site), .d (dI (m.h.sh t n).num), .d (dI (m.h.sh t n).m.count), .d (dI (m.h.sh t n).m.unit), .d (dI (m.h.sh t n).m.g0), .d (dI (m.h.sh t n).m.g1), .d (dI (m.h.sh t n).m.g2), .d (dI (m.h.sh t n).m.g3), .d (dI (m.h.sh t n).m.g4), .d (dI (m.h.sh t n).m.g5), .d (dI (m.h.sh t n).len), .d (dI (m.h.sh t n).fifths), .d (dB (m.h.sh t n).start), .d (dI (m.h.sh t n).fin), .d (dI (m.h.sh t n).ends), .d (dI (m.h.sh t n).jump), .d (dI (m.h.sh t n).labels), .d (dI (m.h.sh t n).swing), .d (dI (m.h.sh t n).brk), .d (.v (.string ⟨(m.h.sh t n).reh.toArray⟩)), .own 7401, .own 7402]) R R R R Cc R lb (by kernel_rfl))<|?_
 refine ChMK.nil ⟨⟨by kernel_rfl,by kernel_rfl,by kernel_rfl⟩, ?_⟩
 refine za R R<|zn<|zs<|zr<|zm R R<|zp (A5 R R R)<|zn<|?_
 refine zd R (fun c33=> ?_) (fun c33=> ?_)
 refine zr<|?_
 refine zp (Ae (s':= .d (.agg [dI 0,dI 0,dI 0,dI 0,dI 0,dI 0,dI 0,dI 0,dI 0,dI 0,dI 0,dI 0,dB false,dI 0,dI 0,dI 0,dI 0,dI 0,dI 0, .v (.string ⟨#[]⟩), .v (.slice none 0 0), .v (.slice none 0 0)])) (Ac (Ay (r:= [.d (dI 0), .d (dI 0), .d (dI 0), .d (dI 0), .d (dI 0), .d (dI 0), .d (dI 0), .d (dI 0), .d (dI 0), .d (dI 0), .d (dI 0), .d (dI 0), .d (dB false), .d (dI 0), .d (dI 0), .d (dI 0), .d (dI 0), .d (dI 0), .d (dI 0), .d (.v (.string ⟨#[]⟩)), .d (.v (.slice none 0 0)), .d (.v (.slice none 0 0))]) R Dc Bz (by kernel_rfl))) (by kernel_rfl))<|?_
 refine zm R R<|XL.step R (Af (l':= [.d (dI 0), .d (dI 0), .d (dI 0), .d (dI 0), .d (dI 0), .d (dI 0), .d (dI 0), .d (dI 0), .d (dI 0), .d (dI 0), .d (dI 0), .d (dI 0), .d (dB false), .d (dI 0), .d (dI 0), .d (dI 0), .d (dI 0), .d (dI 0), .d (dI 0), .d (.v (.string ⟨#[]⟩)), .d (.v (.slice none 0 0)), .d (.v (.slice none 0 0))]) R R R R Cc R lb (by kernel_rfl))<|za R R<|zn<|zt<|?_
 exact Az R (RV.sub (RV.cells R R R A1 lb R) (.agg (.cons (.same R) (.cons (.same R) (.cons (.same R) (.cons (.same R) (.cons (.same R) (.cons (.same R) (.cons (.same R) (.cons (.same R) (.cons (.same R) (.cons (.same R) (.cons (.same R) (.cons (.same R) (.cons (.same R) (.cons (.same R) (.cons (.same R) (.cons (.same R) (.cons (.same R) (.cons (.same R) (.cons (.same R) (.cons (.same R) (.cons (.nil 3) (.cons (.nil 2) (.nil))))))))))))))))))))))))) (RV.tmp R R) (Vz (As4 c21 c33))
 refine zi<|zr<|zp (Ac (Ad R R A1 R lb))<|?_
 refine XL.callP [7401,7402] R R [.agg [.d (dI (m.h.sh t n).site), .d (dI (m.h.sh t n).num), .d (dI (m.h.sh t n).m.count), .d (dI (m.h.sh t n).m.unit), .d (dI (m.h.sh t n).m.g0), .d (dI (m.h.sh t n).m.g1), .d (dI (m.h.sh t n).m.g2), .d (dI (m.h.sh t n).m.g3), .d (dI (m.h.sh t n).m.g4), .d (dI (m.h.sh t n).m.g5), .d (dI (m.h.sh t n).len), .d (dI (m.h.sh t n).fifths), .d (dB (m.h.sh t n).start), .d (dI (m.h.sh t n).fin), .d (dI (m.h.sh t n).ends), .d (dI (m.h.sh t n).jump), .d (dI (m.h.sh t n).labels), .d (dI (m.h.sh t n).swing), .d (dI (m.h.sh t n).brk), .d (.v (.string ⟨(m.h.sh t n).reh.toArray⟩)), .own 7401, .own 7402]] R (s:= .d (.tup [.agg (Pl.c (plS t n)),dI (mlE t n)])) (fun ρ=>Am6 m.h t n _ _ _ _ _ _) R R R R<|?_
 refine zm R R<|zp (Ax R R R)<|zp (Ax R R R)<|XL.step R (Ap 11 (l:= [.d (dI 0), .d (dI 0), .d (dI 0), .d (dI 0), .d (dI 0), .d (dI 0), .d (dI 0), .d (dI 0), .d (dI 0), .d (dI 0)]) R H7 (by kernel_rfl))<|?_
 refine XL.step R (Af (l':= [.d (dI (plS t n).m.count), .d (dI (plS t n).m.unit), .d (dI (plS t n).m.g0), .d (dI (plS t n).m.g1), .d (dI (plS t n).m.g2), .d (dI (plS t n).m.g3), .d (dI (plS t n).m.g4), .d (dI (plS t n).m.g5), .d (dI (plS t n).off), .d (dI (plS t n).len)]) R R R R N0 R lb (by kernel_rfl))<|za R R<|zn<|zs<|zr<|zm R R<|zp (A5 R R R)<|zn<|?_
 refine zd R (fun c42=> ?_) (fun c42=> ?_)
 refine zr<|?_
 refine zp (Ae (s':= .d (.agg [dI 0,dI 0,dI 0,dI 0,dI 0,dI 0,dI 0,dI 0,dI 0,dI 0,dI 0,dI 0,dB false,dI 0,dI 0,dI 0,dI 0,dI 0,dI 0, .v (.string ⟨#[]⟩), .v (.slice none 0 0), .v (.slice none 0 0)])) (Ac (Ay (r:= [.d (dI 0), .d (dI 0), .d (dI 0), .d (dI 0), .d (dI 0), .d (dI 0), .d (dI 0), .d (dI 0), .d (dI 0), .d (dI 0), .d (dI 0), .d (dI 0), .d (dB false), .d (dI 0), .d (dI 0), .d (dI 0), .d (dI 0), .d (dI 0), .d (dI 0), .d (.v (.string ⟨#[]⟩)), .d (.v (.slice none 0 0)), .d (.v (.slice none 0 0))]) R Dc Bz (by kernel_rfl))) (by kernel_rfl))<|?_
 refine zm R R<|XL.step R (Af (l':= [.d (dI 0), .d (dI 0), .d (dI 0), .d (dI 0), .d (dI 0), .d (dI 0), .d (dI 0), .d (dI 0), .d (dI 0), .d (dI 0), .d (dI 0), .d (dI 0), .d (dB false), .d (dI 0), .d (dI 0), .d (dI 0), .d (dI 0), .d (dI 0), .d (dI 0), .d (.v (.string ⟨#[]⟩)), .d (.v (.slice none 0 0)), .d (.v (.slice none 0 0))]) R R R R Cc R lb (by kernel_rfl))<|za R R<|zn<|zt<|?_
 exact Az R (RV.sub (RV.cells R R R A1 lb R) (.agg (.cons (.same R) (.cons (.same R) (.cons (.same R) (.cons (.same R) (.cons (.same R) (.cons (.same R) (.cons (.same R) (.cons (.same R) (.cons (.same R) (.cons (.same R) (.cons (.same R) (.cons (.same R) (.cons (.same R) (.cons (.same R) (.cons (.same R) (.cons (.same R) (.cons (.same R) (.cons (.same R) (.cons (.same R) (.cons (.same R) (.cons (.nil 3) (.cons (.nil 2) (.nil))))))))))))))))))))))))) (RV.tmp R R) (Vz (As4 c21 c42))
 refine zi<|zs<|zs<|?_
 have h1:=hF.tempi
 have h2:=hF.cells
 have hO:=Ai4 c21
 have hP:=Ai4 (t:=t) (n:=n) c33
 refine Ag (by kernel_rfl)<|XL.freezeP 8 (ds:=Pl.c (plS m.h.m m.h.len)) R (by kernel_rfl) (by kernel_rfl)<|XL.freezeP 11 (ds:=Pl.c (plS t n)) R (by kernel_rfl) (by kernel_rfl)<|zp (Aa R R B1)<|zp (Ab R R Eb R R)<|zp (Ae (s':= .d (dI m.cells.length)) (Uw R R R Tryz.underlying28) (sI (by rw [List.length_map])))<|zm R R<|zn<|Ah<|?_
 refine A0 (α:=Nat) (fun k=>k≤m.cells.length∧Kv (plS m.h.m m.h.len) (plS t n) (m.cells.drop k)=Kv (plS m.h.m m.h.len) (plS t n) m.cells) (fun k=>mkF [(6, .ptr 6 0 0),(8, .d (.pt (Pl.c (plS m.h.m m.h.len)))),(10, .ptr 10 0 0),(11, .d (.pt (Pl.c (plS t n)))),(47, .d (dI m.cells.length)),(48, .d (dI k))]) (fun k=>mkH [(6, .box [.d (dI 0), .d (dI 0), .d (dI 0), .d (dI 0), .d (dI 0), .d (dI 0), .d (dI 0), .d (dI 0), .d (dI 0), .d (dI 0), .d (dI 0), .d (dI 0), .d (dB false), .d (dI 0), .d (dI 0), .d (dI 0), .d (dI 0), .d (dI 0), .d (dI 0), .d (.v (.string ⟨#[]⟩)), .d (.v (.slice none 0 0)), .d (.v (.slice none 0 0))]),(10, .box [.d (dI (m.h.sh t n).site), .d (dI (m.h.sh t n).num), .d (dI (m.h.sh t n).m.count), .d (dI (m.h.sh t n).m.unit), .d (dI (m.h.sh t n).m.g0), .d (dI (m.h.sh t n).m.g1), .d (dI (m.h.sh t n).m.g2), .d (dI (m.h.sh t n).m.g3), .d (dI (m.h.sh t n).m.g4), .d (dI (m.h.sh t n).m.g5), .d (dI (m.h.sh t n).len), .d (dI (m.h.sh t n).fifths), .d (dB (m.h.sh t n).start), .d (dI (m.h.sh t n).fin), .d (dI (m.h.sh t n).ends), .d (dI (m.h.sh t n).jump), .d (dI (m.h.sh t n).labels), .d (dI (m.h.sh t n).swing), .d (dI (m.h.sh t n).brk), .d (.v (.string ⟨(m.h.sh t n).reh.toArray⟩)), .own 7401, .own 7402]),(7401, .row 119 3 ((m.tempi).map Tm.c)),(7402, .tree 78 2 [] (mix Ce.u Ce.t ((m.cells.take k).map (C2 (plS m.h.m m.h.len) (plS t n))) (m.cells.drop k)))]) (fun k=>m.cells.length - k) (0) (⟨Nat.zero_le _,R⟩) ?_ ?_ ?_
 exact fz ⟨sr,sr,sr,sr,sr,sr,trivial⟩
 exact gz ⟨R,R,R,R,trivial⟩
 intro k hk0
 obtain ⟨hk,hgo⟩:=hk0
 refine zr<|zp (Au R R R)<|zn<|zs<|?_
 refine zd R (fun c49=> ?_) (fun c49=> ?_)
 have hk0a:k<m.cells.length:=by omega
 obtain ⟨x0,hx0⟩:=Av hk0a
 refine zi<|zs<|Ah<|zr<|zm R R<|za R R<|znr<|zp (Aa R R B1)<|zp (Ab R R Eb R R)<|zm R R<|zp (Dv R R R (R) R E8 (Zi hk0a))<|zp (Ar R (by conv=>lhs;whnf))<|?_
 refine zn<|zs<|zs<|?_
 have hcl:=(hF.c x0 (List.mem_of_getElem? hx0)).clefs
 have hvl:=(hF.c x0 (List.mem_of_getElem? hx0)).voices
 refine M0 (i:=7402) (j:=7502) (k:=k) (m:=1) (l':=(mix Ce.u Ce.t ((m.cells.take k).map (C2 (plS m.h.m m.h.len) (plS t n))) (m.cells.drop k)).set k [.row 84 2 (((x0.clefs).map Cf.c).map (·.map T.d)), .own 7502]) [] (x0.voices.map Vo.t) R R R (Gc hx0) R (Vos.t_in [] _) (R)<|?_
 refine Jv (i:=7402) (j:=7501) (k:=k) (m:=0) (l':=(mix Ce.u Ce.t ((m.cells.take k).map (C2 (plS m.h.m m.h.len) (plS t n))) (m.cells.drop k)).set k [.own 7501, .own 7502]) ((x0.clefs).map Cf.c) R R R (B5 (Gc hx0)) R (List.set_set ..)<|Ag (by kernel_rfl)<|zp (Ak R (by conv=>lhs;whnf))<|?_
 refine zp (Ip R R)<|zp (Aa R R Cs)<|zp (Ae (s':= .own 7502) (Fs R R Gi R (B5 (Gc hx0)) R) R)<|zp (Ae (s':= .d (dI x0.voices.length)) (Uw R R R Tryz.underlying76) (sI (by rw [List.length_map])))<|zm R R<|zn<|Ah<|?_
 refine A0 (α:=Nat) (fun j=>j≤x0.voices.length∧I9 (plS m.h.m m.h.len) (plS t n) (x0.voices.drop j)=I9 (plS m.h.m m.h.len) (plS t n) x0.voices) (fun j=>mkF [(6, .ptr 6 0 0),(8, .d (.pt (Pl.c (plS m.h.m m.h.len)))),(10, .ptr 10 0 0),(11, .d (.pt (Pl.c (plS t n)))),(13, .ptr 7402 k 0),(47, .d (dI m.cells.length)),(48, .d (dI k)),(59, .d (dI x0.voices.length)),(60, .d (dI j))]) (fun j=>mkH [(6, .box [.d (dI 0), .d (dI 0), .d (dI 0), .d (dI 0), .d (dI 0), .d (dI 0), .d (dI 0), .d (dI 0), .d (dI 0), .d (dI 0), .d (dI 0), .d (dI 0), .d (dB false), .d (dI 0), .d (dI 0), .d (dI 0), .d (dI 0), .d (dI 0), .d (dI 0), .d (.v (.string ⟨#[]⟩)), .d (.v (.slice none 0 0)), .d (.v (.slice none 0 0))]),(10, .box [.d (dI (m.h.sh t n).site), .d (dI (m.h.sh t n).num), .d (dI (m.h.sh t n).m.count), .d (dI (m.h.sh t n).m.unit), .d (dI (m.h.sh t n).m.g0), .d (dI (m.h.sh t n).m.g1), .d (dI (m.h.sh t n).m.g2), .d (dI (m.h.sh t n).m.g3), .d (dI (m.h.sh t n).m.g4), .d (dI (m.h.sh t n).m.g5), .d (dI (m.h.sh t n).len), .d (dI (m.h.sh t n).fifths), .d (dB (m.h.sh t n).start), .d (dI (m.h.sh t n).fin), .d (dI (m.h.sh t n).ends), .d (dI (m.h.sh t n).jump), .d (dI (m.h.sh t n).labels), .d (dI (m.h.sh t n).swing), .d (dI (m.h.sh t n).brk), .d (.v (.string ⟨(m.h.sh t n).reh.toArray⟩)), .own 7401, .own 7402]),(7401, .row 119 3 ((m.tempi).map Tm.c)),(7402, .tree 78 2 [7501,7502] ((mix Ce.u Ce.t ((m.cells.take k).map (C2 (plS m.h.m m.h.len) (plS t n))) (m.cells.drop k)).set k [.own 7501, .own 7502])),(7501, .row 84 2 ((x0.clefs).map Cf.c)),(7502, .tree 82 2 [] (mix Vo.u Vo.t ((x0.voices.take j).map (fun v=>(Et v (plS m.h.m m.h.len) (plS t n)).1)) (x0.voices.drop j)))]) (fun j=>x0.voices.length - j) (0) (⟨Nat.zero_le _,R⟩) ?_ ?_ ?_
 exact fz ⟨sr,sr,sr,sr,sr,sr,sr,sr,sr,trivial⟩
 exact gz ⟨R,R,R,R,R,R,trivial⟩
 intro j hk2
 obtain ⟨hj,hgv⟩:=hk2
 refine zr<|zp (Au R R R)<|zn<|zs<|?_
 refine zd R (fun c61=> ?_) (fun c61=> ?_)
 have hk2a:j<x0.voices.length:=by omega
 obtain ⟨x2,hx2⟩:=Av hk2a
 refine zi<|zs<|Ah<|zr<|zm R R<|za R R<|zn<|zs<|?_
 have hfv:=(hF.c x0 (List.mem_of_getElem? hx0)).v x2 (List.mem_of_getElem? hx2)
 have hEv:=hE x0 (List.mem_of_getElem? hx0) x2 (List.mem_of_getElem? hx2)
 have hfl:=hfv.evs
 refine Jv (i:=7502) (j:=7601) (k:=j) (m:=0) (l':=(mix Vo.u Vo.t ((x0.voices.take j).map (fun v=>(Et v (plS m.h.m m.h.len) (plS t n)).1)) (x0.voices.drop j)).set j [.own 7601, .row 157 4 (((x2.tups).map Tp.c).map (·.map T.d))]) ((x2.evs).map Ev.c) R R R (Gc hx2) R (R)<|?_
 refine Jv (i:=7502) (j:=7602) (k:=j) (m:=1) (l':=(mix Vo.u Vo.t ((x0.voices.take j).map (fun v=>(Et v (plS m.h.m m.h.len) (plS t n)).1)) (x0.voices.drop j)).set j [.own 7601, .own 7602]) ((x2.tups).map Tp.c) R R R (B5 (Gc hx2)) R (List.set_set ..)<|Ih (i:=7602) R<|?_
 refine K1 (i:=7502) (l':=(mix Vo.u Vo.t ((x0.voices.take j).map (fun v=>(Et v (plS m.h.m m.h.len) (plS t n)).1)) (x0.voices.drop j)).set j [.own 7601, .d (.sl 4 (x2.tups.map Tp.c))]) [7601] R (F5 (Rv [] _ _) R) (Cu (Rv [] _ _) (D9 (R) (R)) _)<|?_
 refine Aew 14 19 20 (S.kills [900001,7601,5003,5004,5005,5006,5029,900002,7001]) (mkH [(6, .box [.d (dI 0), .d (dI 0), .d (dI 0), .d (dI 0), .d (dI 0), .d (dI 0), .d (dI 0), .d (dI 0), .d (dI 0), .d (dI 0), .d (dI 0), .d (dI 0), .d (dB false), .d (dI 0), .d (dI 0), .d (dI 0), .d (dI 0), .d (dI 0), .d (dI 0), .d (.v (.string ⟨#[]⟩)), .d (.v (.slice none 0 0)), .d (.v (.slice none 0 0))]),(10, .box [.d (dI (m.h.sh t n).site), .d (dI (m.h.sh t n).num), .d (dI (m.h.sh t n).m.count), .d (dI (m.h.sh t n).m.unit), .d (dI (m.h.sh t n).m.g0), .d (dI (m.h.sh t n).m.g1), .d (dI (m.h.sh t n).m.g2), .d (dI (m.h.sh t n).m.g3), .d (dI (m.h.sh t n).m.g4), .d (dI (m.h.sh t n).m.g5), .d (dI (m.h.sh t n).len), .d (dI (m.h.sh t n).fifths), .d (dB (m.h.sh t n).start), .d (dI (m.h.sh t n).fin), .d (dI (m.h.sh t n).ends), .d (dI (m.h.sh t n).jump), .d (dI (m.h.sh t n).labels), .d (dI (m.h.sh t n).swing), .d (dI (m.h.sh t n).brk), .d (.v (.string ⟨(m.h.sh t n).reh.toArray⟩)), .own 7401, .own 7402]),(7401, .row 119 3 ((m.tempi).map Tm.c)),(7402, .tree 78 2 [7501,7502] ((mix Ce.u Ce.t ((m.cells.take k).map (C2 (plS m.h.m m.h.len) (plS t n))) (m.cells.drop k)).set k [.own 7501, .own 7502])),(7501, .row 84 2 ((x0.clefs).map Cf.c)),(7502, .tree 82 2 [] ((mix Vo.u Vo.t ((x0.voices.take j).map (fun v=>(Et v (plS m.h.m m.h.len) (plS t n)).1)) (x0.voices.drop j)).set j [.any, .d (.sl 4 (x2.tups.map Tp.c))]))]) (mkH [(6, .box [.d (dI 0), .d (dI 0), .d (dI 0), .d (dI 0), .d (dI 0), .d (dI 0), .d (dI 0), .d (dI 0), .d (dI 0), .d (dI 0), .d (dI 0), .d (dI 0), .d (dB false), .d (dI 0), .d (dI 0), .d (dI 0), .d (dI 0), .d (dI 0), .d (dI 0), .d (.v (.string ⟨#[]⟩)), .d (.v (.slice none 0 0)), .d (.v (.slice none 0 0))]),(10, .box [.d (dI (m.h.sh t n).site), .d (dI (m.h.sh t n).num), .d (dI (m.h.sh t n).m.count), .d (dI (m.h.sh t n).m.unit), .d (dI (m.h.sh t n).m.g0), .d (dI (m.h.sh t n).m.g1), .d (dI (m.h.sh t n).m.g2), .d (dI (m.h.sh t n).m.g3), .d (dI (m.h.sh t n).m.g4), .d (dI (m.h.sh t n).m.g5), .d (dI (m.h.sh t n).len), .d (dI (m.h.sh t n).fifths), .d (dB (m.h.sh t n).start), .d (dI (m.h.sh t n).fin), .d (dI (m.h.sh t n).ends), .d (dI (m.h.sh t n).jump), .d (dI (m.h.sh t n).labels), .d (dI (m.h.sh t n).swing), .d (dI (m.h.sh t n).brk), .d (.v (.string ⟨(m.h.sh t n).reh.toArray⟩)), .own 7401, .own 7402]),(7401, .row 119 3 ((m.tempi).map Tm.c)),(7402, .tree 78 2 [7501,7502] ((mix Ce.u Ce.t ((m.cells.take k).map (C2 (plS m.h.m m.h.len) (plS t n))) (m.cells.drop k)).set k [.own 7501, .own 7502])),(7501, .row 84 2 ((x0.clefs).map Cf.c)),(7502, .tree 82 2 [] ((mix Vo.u Vo.t ((x0.voices.take j).map (fun v=>(Et v (plS m.h.m m.h.len) (plS t n)).1)) (x0.voices.drop j)).set j [.d (.sl 13 (((Et x2 (plS m.h.m m.h.len) (plS t n)).1).evs.map Ev.c)), .d (.sl 4 (((Et x2 (plS m.h.m m.h.len) (plS t n)).1).tups.map Tp.c))]))]) (by kernel_rfl) (by kernel_rfl) (by kernel_rfl) (by kernel_rfl)<|?_
 refine ChFK.fr R R (CStep.pure (Ak R (by conv=>lhs;whnf))) (CStep.pure (Ak R (by conv=>lhs;whnf))) (by exact rfl)<|?_
 refine ChFK.fr R R (CStep.pure (Ip R R)) (CStep.pure (Ip R R)) (by exact rfl)<|ChFK.fr R R (CStep.pure (Aa R R Cs)) (CStep.pure (Aa R R Cs)) (by exact rfl)<|?_
 refine ChFK.fr R R (CStep.pure (Ae (s':= .own 7502) (Fs R R Gi R (B5 (Gc hx0)) R) R)) (CStep.pure (Ae (s':= .own 7502) (Fs R R Gi R (B5 (Gc hx0)) R) R)) (by exact rfl)<|ChFK.fr R R (CStep.pure (Ak R (by conv=>lhs;whnf))) (CStep.pure (Ak R (by conv=>lhs;whnf))) (by exact rfl)<|?_
 refine ChFK.bf R (CStep.pure (Ak R (by conv=>lhs;whnf))) (by conv=>lhs;whnf)<|?_
 refine ChFK.bf R (CStep.pure (Ip R R)) (by conv=>lhs;whnf)<|?_
 refine ChFK.bf R (CStep.pure (Aa R R Cs)) (by conv=>lhs;whnf)<|?_
 refine ChFK.bf R (CStep.pure (Ae (s':= .own 7502) (Fs R R Gi R (B5 (Gc hx0)) R) R)) (by conv=>lhs;whnf)<|?_
 refine ChFK.bf R (CStep.pure (Ak R (by conv=>lhs;whnf))) (by conv=>lhs;whnf)<|?_
 refine ChFK.bf R (CStep.pure (Dv R R R (R) R F1 (Gs (Zi hk2a)))) (by conv=>lhs;whnf)<|?_
 refine ChFK.bf R (CStep.pure (Ae (s':=(.agg [.own 7601, .d (.sl 4 (x2.tups.map Tp.c))])) (Zb R R Aq R (B5 (Gc hx2)) lb) (by kernel_rfl))) (by conv=>lhs;whnf)<|?_
 refine ChFK.bf R (CStep.pure (Ae (s':= .d (.agg (Pl.c (plS m.h.m m.h.len)))) (A6 R R Gz lb) (by kernel_rfl))) (by conv=>lhs;whnf)<|?_
 refine ChFK.bf R (CStep.pure (Ae (s':= .d (.agg (Pl.c (plS t n)))) (A6 R R Gz lb) (by kernel_rfl))) (by conv=>lhs;whnf)<|?_
 refine ChFK.mu R (At0 900001 [7601,5003,5004,5005,5006,5029,900002,7001] (.d (.tup [.agg (Vo.c (Et x2 (plS m.h.m m.h.len) (plS t n)).1),dI (Et x2 (plS m.h.m m.h.len) (plS t n)).2])) (mkH [(6, .box [.d (dI 0), .d (dI 0), .d (dI 0), .d (dI 0), .d (dI 0), .d (dI 0), .d (dI 0), .d (dI 0), .d (dI 0), .d (dI 0), .d (dI 0), .d (dI 0), .d (dB false), .d (dI 0), .d (dI 0), .d (dI 0), .d (dI 0), .d (dI 0), .d (dI 0), .d (.v (.string ⟨#[]⟩)), .d (.v (.slice none 0 0)), .d (.v (.slice none 0 0))]),(10, .box [.d (dI (m.h.sh t n).site), .d (dI (m.h.sh t n).num), .d (dI (m.h.sh t n).m.count), .d (dI (m.h.sh t n).m.unit), .d (dI (m.h.sh t n).m.g0), .d (dI (m.h.sh t n).m.g1), .d (dI (m.h.sh t n).m.g2), .d (dI (m.h.sh t n).m.g3), .d (dI (m.h.sh t n).m.g4), .d (dI (m.h.sh t n).m.g5), .d (dI (m.h.sh t n).len), .d (dI (m.h.sh t n).fifths), .d (dB (m.h.sh t n).start), .d (dI (m.h.sh t n).fin), .d (dI (m.h.sh t n).ends), .d (dI (m.h.sh t n).jump), .d (dI (m.h.sh t n).labels), .d (dI (m.h.sh t n).swing), .d (dI (m.h.sh t n).brk), .d (.v (.string ⟨(m.h.sh t n).reh.toArray⟩)), .own 7401, .own 7402]),(7401, .row 119 3 ((m.tempi).map Tm.c)),(7402, .tree 78 2 [7501,7502] ((mix Ce.u Ce.t ((m.cells.take k).map (C2 (plS m.h.m m.h.len) (plS t n))) (m.cells.drop k)).set k [.own 7501, .own 7502])),(7501, .row 84 2 ((x0.clefs).map Cf.c)),(7502, .tree 82 2 [] ((mix Vo.u Vo.t ((x0.voices.take j).map (fun v=>(Et v (plS m.h.m m.h.len) (plS t n)).1)) (x0.voices.drop j)).set j [.any, .d (.sl 4 (x2.tups.map Tp.c))]))]) R .d Ad8 Tryz.func63 R R lb (fun u1 fp1=> ?_)) ?_
 refine Ale (i:=7502) (k:=j) (m:=0) (l':=(mix Vo.u Vo.t ((x0.voices.take j).map (fun v=>(Et v (plS m.h.m m.h.len) (plS t n)).1)) (x0.voices.drop j)).set j [.any, .d (.sl 4 (x2.tups.map Tp.c))]) [] R (B5 (Gc hx2)) R (List.set_set ..) (Cu (Rv [] _ _) (D9 (R) (R)) _)<|zr<|XL.step R (Ao 5003 (l:= [.own 7601, .d (.sl 4 (x2.tups.map Tp.c))]) R R (by kernel_rfl))<|?_
 refine XL.step R (Ao 5004 (l:= [.d (dI (plS m.h.m m.h.len).m.count), .d (dI (plS m.h.m m.h.len).m.unit), .d (dI (plS m.h.m m.h.len).m.g0), .d (dI (plS m.h.m m.h.len).m.g1), .d (dI (plS m.h.m m.h.len).m.g2), .d (dI (plS m.h.m m.h.len).m.g3), .d (dI (plS m.h.m m.h.len).m.g4), .d (dI (plS m.h.m m.h.len).m.g5), .d (dI (plS m.h.m m.h.len).off), .d (dI (plS m.h.m m.h.len).len)]) R R (by kernel_rfl))<|?_
 refine XL.step R (Ao 5005 (l:= [.d (dI (plS t n).m.count), .d (dI (plS t n).m.unit), .d (dI (plS t n).m.g0), .d (dI (plS t n).m.g1), .d (dI (plS t n).m.g2), .d (dI (plS t n).m.g3), .d (dI (plS t n).m.g4), .d (dI (plS t n).m.g5), .d (dI (plS t n).off), .d (dI (plS t n).len)]) R R (by kernel_rfl))<|?_
 refine XL.step R (Ap 5006 (l:= [.d (.v (.slice none 0 0)), .d (.v (.slice none 0 0))]) R Ba (by kernel_rfl))<|za R R<|znr<|za R R<|zn<|zs<|Ah<|zr<|zp (Ac (Ad R R Aq R lb))<|?_
 refine XL.inl 900002 [(3, .ptr 5003 0 0),(4, .ptr 5004 0 0),(5, .ptr 5005 0 0),(6, .ptr 5006 0 0),(7, .d (dI 0)),(8, .d (dI 0))] R R .d S3 Tryz.func56 R R lb (by simp only [List.forall_mem_cons];exact ⟨⟨Nat.le_of_ble_eq_true rfl,rfl⟩,⟨⟨Nat.le_of_ble_eq_true rfl,rfl⟩,⟨⟨Nat.le_of_ble_eq_true rfl,rfl⟩,⟨⟨Nat.le_of_ble_eq_true rfl,rfl⟩,⟨⟨Nat.le_of_ble_eq_true rfl,rfl⟩,⟨⟨Nat.le_of_ble_eq_true rfl,rfl⟩,fun p hp=>(by cases hp)⟩⟩⟩⟩⟩⟩) fun u2=>?_
 refine zr<|XL.step R (Ao 7001 (l:= [.own 7601, .d (.sl 4 (x2.tups.map Tp.c))]) R R (by kernel_rfl))<|za R R<|znr<|zp (Aa R R Bk)<|zp (Ab R R Cv R R)<|zp (Bc R R R Tryz.underlying79)<|zp (Be R R R)<|za R R<|zn<|zt<|?_
 refine (Ee (l:= [(3, .ptr 5003 0 0),(4, .ptr 5004 0 0),(5, .ptr 5005 0 0),(6, .ptr 5006 0 0),(7, .d (dI 0)),(8, .d (dI 0))]) (by kernel_rfl) (rs1 R (RV.tmp R R)) ?_).2
 refine zp (Eq R R)<|zm R R<|?_
 refine XL.dec 35 R (fun g35i=> ?_) (fun g35i=> ?_)
 refine zk 5 R<|zq R R R<|zm R R<|zk 12 R<|zq R R R<|za R R<|zn<|Aw (by kernel_rfl) R<|zr<|XL.freeze (i:=7601) R<|zp (Ae (s':= .d (.agg [.sl 13 (x2.evs.map Ev.c), .sl 4 (x2.tups.map Tp.c)])) (Ac (Ad R R Aq R lb)) (by kernel_rfl))<|XL.step R (Af (l':= [.d (.sl 13 (x2.evs.map Ev.c)), .d (.sl 4 (x2.tups.map Tp.c))]) R R R R Bm R lb (by kernel_rfl))<|za R R<|zn<|?_
 refine zt<|?_
 exact Ks R (by repeat (first|exact GL.z|refine GL.k ?_ rfl|refine GL.f ?_ rfl|refine GL.p ?_ rfl)) (Ki (rs2 R (RV.cells R R R Aq lb R) (RV.tmp R R)) (congrArg S.d (Nn (Am5 (by unfold Vo.same;omega))))) (gz ⟨R,R,R,R,R,R,trivial⟩)
 refine zp (Aa R R C4)<|zp (Ab R R Ai R R)<|zp (Aa R R C4)<|zp (Ab R R Ai R R)<|zp (Bf R R R)<|zq R R R<|zm R R<|?_
 refine XL.dec 42 R (fun g42i=> ?_) (fun g42i=> ?_)
 refine zk 12 R<|zq R R R<|za R R<|zn<|Aw (by kernel_rfl) R<|zr<|XL.freeze (i:=7601) R<|zp (Ae (s':= .d (.agg [.sl 13 (x2.evs.map Ev.c), .sl 4 (x2.tups.map Tp.c)])) (Ac (Ad R R Aq R lb)) (by kernel_rfl))<|XL.step R (Af (l':= [.d (.sl 13 (x2.evs.map Ev.c)), .d (.sl 4 (x2.tups.map Tp.c))]) R R R R Bm R lb (by kernel_rfl))<|za R R<|zn<|zt<|?_
 exact Ks R (by repeat (first|exact GL.z|refine GL.k ?_ rfl|refine GL.f ?_ rfl|refine GL.p ?_ rfl)) (Ki (rs2 R (RV.cells R R R Aq lb R) (RV.tmp R R)) (congrArg S.d (Nn (Am5 (by unfold Vo.same;omega))))) (gz ⟨R,R,R,R,R,R,trivial⟩)
 refine zp (Aa R R Bk)<|zp (Ab R R Cv R R)<|zp (Bc R R R Tryz.underlying79)<|zp (Bf R R R)<|zm R R<|?_
 refine XL.dec 47 R (fun g47i=> ?_) (fun g47i=> ?_)
 obtain ⟨e0,he0⟩:∃e,x2.evs[0]? =some e:=Av (by omega)
 have hwh:=K2 he0
 refine zp (Aa R R Bk)<|zp (Ab R R Cv R R)<|zp (Ca R R R ((R:(0:Int)=((0:Nat):Int))) R Gx (by first|omega|(simp only [List.length_map];omega)))<|zp (Aa R R Dk)<|zp (Gu R R Ai R (Ct he0) R)<|zp (Bf R R R)<|zq R R R<|zq R R R<|za R R<|zn<|?_
 refine zd R (fun c31i=> ?_) (fun c31i=> ?_)
 refine zr<|XL.freeze (i:=7601) R<|zp (Ae (s':= .d (.agg [.sl 13 (x2.evs.map Ev.c), .sl 4 (x2.tups.map Tp.c)])) (Ac (Ad R R Aq R lb)) (by kernel_rfl))<|XL.step R (Af (l':= [.d (.sl 13 (x2.evs.map Ev.c)), .d (.sl 4 (x2.tups.map Tp.c))]) R R R R Bm R lb (by kernel_rfl))<|za R R<|zn<|zt<|?_
 exact Ks R (by repeat (first|exact GL.z|refine GL.k ?_ rfl|refine GL.f ?_ rfl|refine GL.p ?_ rfl)) (Ki (rs2 R (RV.cells R R R Aq lb R) (RV.tmp R R)) (congrArg S.d (Nn (Am5 (.inr (.inr ⟨by omega,hwh.2 (by omega)⟩)))))) (gz ⟨rfl,rfl,rfl,rfl,rfl,rfl,trivial⟩)
 refine zr<|zp (Aa R R C4)<|zp (Ab R R Ai R R)<|zp (Aa R R C4)<|zp (Ab R R Ai R R)<|zp (Au R R R)<|za R R<|zn<|?_
 refine zd R (fun c57i=> ?_) (fun c57i=> ?_)
 refine Ag (by kernel_rfl)<|XL.freeze (i:=7601) R<|zp (Ae (s':= .d (.agg (Vo.c x2))) (Ac (Ad R R Aq R lb)) (by kernel_rfl))<|zp (Ae (s':= .d (.agg (Pl.c (plS m.h.m m.h.len)))) (Ac (Ad R R Gz R lb)) (by kernel_rfl))<|zp (Aa R R C4)<|zp (Ab R R Ai R R)<|XL.call1 R R (Akz _ _ _ _ (by assumption) (by assumption)) R<|?_
 refine zm R R<|zp (Ax R R R)<|zp (Ax R R R)<|XL.step R (Af (l':= [.d (.sl 13 (((Ez x2 (plS m.h.m m.h.len) 0 ((plS t n).len)).1).evs.map Ev.c)), .d (.sl 4 (((Ez x2 (plS m.h.m m.h.len) 0 ((plS t n).len)).1).tups.map Tp.c))]) R R R R Bm R lb (by kernel_rfl))<|za R R<|zn<|zs<|zr<|zm R R<|zp (A5 R R R)<|zn<|?_
 refine zd R (fun c72i=> ?_) (fun c72i=> ?_)
 refine zr<|zp (Ae (s':= .d (.agg [.v (.slice none 0 0), .v (.slice none 0 0)])) (Ac (Ay R C0 Ba R)) (by kernel_rfl))<|zm R R<|XL.step R (Af (l':= [.d (.v (.slice none 0 0)), .d (.v (.slice none 0 0))]) R R R R Bm R lb (by kernel_rfl))<|za R R<|zn<|zt<|?_
 exact Ks R (by repeat (first|exact GL.z|refine GL.k ?_ rfl|refine GL.f ?_ rfl|refine GL.p ?_ rfl)) (Ki (rs2 R (RV.sub (RV.cells R R R Aq lb R) (.agg (.cons (.nil 13) (.cons (.nil 4) (.nil))))) (RV.tmp R R)) (congrArg S.d (Nn (As2 (by unfold Vo.same;rw [hwh];omega) c57i c72i)))) (gz ⟨R,R,R,R,R,R,trivial⟩)
 refine zi<|zs<|?_
 have hEc:=(Aaf (v:=x2) (p:=(plS m.h.m m.h.len)) (a:=0) (b:=(plS t n).len) (by omega) hfv).1
 refine Cq 5 [] (by kernel_rfl) (by kernel_rfl) (by kernel_rfl) (by kernel_rfl) (by decide)<|yp (Ae (s':= .d (.agg (Vo.c (Ez x2 (plS m.h.m m.h.len) 0 ((plS t n).len)).1))) (Ac (Ad R R Aq R lb)) (by kernel_rfl))<|yp (Ae (s':= .d (.agg (Vo.c (Ez x2 (plS m.h.m m.h.len) 0 ((plS t n).len)).1))) (Ac (Ad R R Aq R lb)) (by kernel_rfl))<|?_
 refine yp (Aa R R C4)<|yp (Ab R R Ai R R)<|ChK.cons R (CStep.call R (J4 _ _ (by assumption)) R)<|?_
 refine ChK.nil ⟨by kernel_rfl, ?_⟩
 refine XL.step R (Af (l':= [.d (.sl 13 (((Ez x2 (plS m.h.m m.h.len) 0 ((plS t n).len)).1).evs.map Ev.c)), .d (.sl 4 (((Ez x2 (plS m.h.m m.h.len) 0 ((plS t n).len)).1).tups.map Tp.c))]) R R R R Bm R lb (by kernel_rfl))<|za R R<|zn<|zt<|?_
 exact Ks R (by repeat (first|exact GL.z|refine GL.k ?_ rfl|refine GL.f ?_ rfl|refine GL.p ?_ rfl)) (Ki (rs2 R (RV.cells R R R Aq lb R) (RV.tmp R R)) (congrArg S.d (Nn (As1 (by unfold Vo.same;rw [hwh];omega) c57i c72i)))) (gz ⟨R,R,R,R,R,R,trivial⟩)
 refine zr<|za R R<|zn<|zs<|?_
 have hrl:=Wm (plS t n).m ((plS t n).off+(plS m.h.m m.h.len).len) ((plS t n).off+(plS t n).len)
 refine Ag (by kernel_rfl)<|zp (Aa R R Nq)<|zp (Ae (s':= .d (.agg (Me.c (plS t n).m))) (Ac (Ad R R Br R lb)) (by kernel_rfl))<|zp (Aa R R G8)<|zp (Ab R R Ai R R)<|zp (Aa R R C4)<|zp (Ab R R Ai R R)<|zp (An R R R (by omega) (by omega))<|zp (Aa R R G8)<|zp (Ab R R Ai R R)<|?_
 refine zp (Aa R R C4)<|zp (Ab R R Ai R R)<|zp (An R R R (by omega) (by omega))<|XL.call1 R R (Y4 _ _ _) R<|zm R R<|zp (Ax R R R)<|zp (Ax R R R)<|za R R<|za R R<|zng<|zp (Aa R R Bk)<|zp (Ab R R Cv R R)<|zm R R<|XL.step R (A3 R Gf (.own R) (Src.sl (by omega)) (by unfold maxLen;simp;omega) (by simp;omega))<|?_
 refine XL.rowq (i:=7601) (l':=(x2.evs++In (plS t n).m ((plS t n).off+(plS m.h.m m.h.len).len) ((plS t n).off+(plS t n).len)).map Ev.c) R (Rx)<|zp (Aa R R Bk)<|XL.step R (Af (l':= [.own 7601, .d (.sl 4 (x2.tups.map Tp.c))]) R R R R O8 R lb (by kernel_rfl))<|zn<|zs<|zr<|zm R R<|zp (A5 R R R)<|zn<|?_
 refine zd R (fun c72i=> ?_) (fun c72i=> ?_)
 refine zr<|zp (Ae (s':= .d (.agg [.v (.slice none 0 0), .v (.slice none 0 0)])) (Ac (Ay R C0 Ba R)) (by kernel_rfl))<|zm R R<|XL.step R (Af (l':= [.d (.v (.slice none 0 0)), .d (.v (.slice none 0 0))]) R R R R Bm R lb (by kernel_rfl))<|za R R<|zn<|zt<|?_
 exact Ks R (by repeat (first|exact GL.z|refine GL.k ?_ rfl|refine GL.f ?_ rfl|refine GL.p ?_ rfl)) (Ki (rs2 R (RV.sub (RV.cells R R R Aq lb R) (.agg (.cons (.nil 13) (.cons (.nil 4) (.nil))))) (RV.tmp R R)) (congrArg S.d (Nn (As0 (by unfold Vo.same;rw [hwh];omega) c57i c72i)))) (gz ⟨R,R,R,R,R,R,trivial⟩)
 refine zi<|zs<|?_
 have hEc:=Afv hEv (Wn (plS t n).m ((plS t n).off+(plS m.h.m m.h.len).len) ((plS t n).off+(plS t n).len))
 refine Ih (i:=7601) R<|Cq 5 [] (by kernel_rfl) (by kernel_rfl) (by kernel_rfl) (by kernel_rfl) (by decide)<|yp (Ae (s':= .d (.agg (Vo.c (Ma x2 (plS m.h.m m.h.len) (plS t n))))) (Ac (Ad R R Aq R lb)) (by kernel_rfl))<|yp (Ae (s':= .d (.agg (Vo.c (Ma x2 (plS m.h.m m.h.len) (plS t n))))) (Ac (Ad R R Aq R lb)) (by kernel_rfl))<|?_
 refine yp (Aa R R C4)<|yp (Ab R R Ai R R)<|ChK.cons R (CStep.call R (J4 _ _ (by assumption)) R)<|?_
 refine ChK.nil ⟨by kernel_rfl, ?_⟩
 refine XL.step R (Af (l':= [.d (.sl 13 ((Ma x2 (plS m.h.m m.h.len) (plS t n)).evs.map Ev.c)), .d (.sl 4 ((Ma x2 (plS m.h.m m.h.len) (plS t n)).tups.map Tp.c))]) R R R R Bm R lb (by kernel_rfl))<|za R R<|zn<|zt<|?_
 exact Ks R (by repeat (first|exact GL.z|refine GL.k ?_ rfl|refine GL.f ?_ rfl|refine GL.p ?_ rfl)) (Ki (rs2 R (RV.cells R R R Aq lb R) (RV.tmp R R)) (congrArg S.d (Nn (Asz (by unfold Vo.same;rw [hwh];omega) c57i c72i)))) (gz ⟨R,R,R,R,R,R,trivial⟩)
 refine zk 6 R<|zq R R R<|zq R R R<|za R R<|zn<|A8 (by kernel_rfl) R<|zr<|zp (Aa R R C4)<|zp (Ab R R Ai R R)<|zp (Aa R R C4)<|zp (Ab R R Ai R R)<|zp (Au R R R)<|za R R<|zn<|?_
 refine zd R (fun c57i=> ?_) (fun c57i=> ?_)
 refine Ag (by kernel_rfl)<|XL.freeze (i:=7601) R<|zp (Ae (s':= .d (.agg (Vo.c x2))) (Ac (Ad R R Aq R lb)) (by kernel_rfl))<|zp (Ae (s':= .d (.agg (Pl.c (plS m.h.m m.h.len)))) (Ac (Ad R R Gz R lb)) (by kernel_rfl))<|zp (Aa R R C4)<|zp (Ab R R Ai R R)<|XL.call1 R R (Akz _ _ _ _ (by assumption) (by assumption)) R<|?_
 refine zm R R<|zp (Ax R R R)<|zp (Ax R R R)<|XL.step R (Af (l':= [.d (.sl 13 (((Ez x2 (plS m.h.m m.h.len) 0 ((plS t n).len)).1).evs.map Ev.c)), .d (.sl 4 (((Ez x2 (plS m.h.m m.h.len) 0 ((plS t n).len)).1).tups.map Tp.c))]) R R R R Bm R lb (by kernel_rfl))<|za R R<|zn<|zs<|zr<|zm R R<|zp (A5 R R R)<|zn<|?_
 refine zd R (fun c72i=> ?_) (fun c72i=> ?_)
 refine zr<|zp (Ae (s':= .d (.agg [.v (.slice none 0 0), .v (.slice none 0 0)])) (Ac (Ay R C0 Ba R)) (by kernel_rfl))<|zm R R<|XL.step R (Af (l':= [.d (.v (.slice none 0 0)), .d (.v (.slice none 0 0))]) R R R R Bm R lb (by kernel_rfl))<|za R R<|zn<|zt<|?_
 exact Ks R (by repeat (first|exact GL.z|refine GL.k ?_ rfl|refine GL.f ?_ rfl|refine GL.p ?_ rfl)) (Ki (rs2 R (RV.sub (RV.cells R R R Aq lb R) (.agg (.cons (.nil 13) (.cons (.nil 4) (.nil))))) (RV.tmp R R)) (congrArg S.d (Nn (As2 (by unfold Vo.same;omega) c57i c72i)))) (gz ⟨R,R,R,R,R,R,trivial⟩)
 refine zi<|zs<|?_
 have hEc:=(Aaf (v:=x2) (p:=(plS m.h.m m.h.len)) (a:=0) (b:=(plS t n).len) (by omega) hfv).1
 refine Cq 5 [] (by kernel_rfl) (by kernel_rfl) (by kernel_rfl) (by kernel_rfl) (by decide)<|yp (Ae (s':= .d (.agg (Vo.c (Ez x2 (plS m.h.m m.h.len) 0 ((plS t n).len)).1))) (Ac (Ad R R Aq R lb)) (by kernel_rfl))<|yp (Ae (s':= .d (.agg (Vo.c (Ez x2 (plS m.h.m m.h.len) 0 ((plS t n).len)).1))) (Ac (Ad R R Aq R lb)) (by kernel_rfl))<|?_
 refine yp (Aa R R C4)<|yp (Ab R R Ai R R)<|ChK.cons R (CStep.call R (J4 _ _ (by assumption)) R)<|?_
 refine ChK.nil ⟨by kernel_rfl, ?_⟩
 refine XL.step R (Af (l':= [.d (.sl 13 (((Ez x2 (plS m.h.m m.h.len) 0 ((plS t n).len)).1).evs.map Ev.c)), .d (.sl 4 (((Ez x2 (plS m.h.m m.h.len) 0 ((plS t n).len)).1).tups.map Tp.c))]) R R R R Bm R lb (by kernel_rfl))<|za R R<|zn<|zt<|?_
 exact Ks R (by repeat (first|exact GL.z|refine GL.k ?_ rfl|refine GL.f ?_ rfl|refine GL.p ?_ rfl)) (Ki (rs2 R (RV.cells R R R Aq lb R) (RV.tmp R R)) (congrArg S.d (Nn (As1 (by unfold Vo.same;omega) c57i c72i)))) (gz ⟨R,R,R,R,R,R,trivial⟩)
 refine zr<|za R R<|zn<|zs<|?_
 have hrl:=Wm (plS t n).m ((plS t n).off+(plS m.h.m m.h.len).len) ((plS t n).off+(plS t n).len)
 refine Ag (by kernel_rfl)<|zp (Aa R R Nq)<|zp (Ae (s':= .d (.agg (Me.c (plS t n).m))) (Ac (Ad R R Br R lb)) (by kernel_rfl))<|zp (Aa R R G8)<|zp (Ab R R Ai R R)<|zp (Aa R R C4)<|zp (Ab R R Ai R R)<|zp (An R R R (by omega) (by omega))<|zp (Aa R R G8)<|zp (Ab R R Ai R R)<|?_
 refine zp (Aa R R C4)<|zp (Ab R R Ai R R)<|zp (An R R R (by omega) (by omega))<|XL.call1 R R (Y4 _ _ _) R<|zm R R<|zp (Ax R R R)<|zp (Ax R R R)<|za R R<|za R R<|zng<|zp (Aa R R Bk)<|zp (Ab R R Cv R R)<|zm R R<|XL.step R (A3 R Gf (.own R) (Src.sl (by omega)) (by unfold maxLen;simp;omega) (by simp;omega))<|?_
 refine XL.rowq (i:=7601) (l':=(x2.evs++In (plS t n).m ((plS t n).off+(plS m.h.m m.h.len).len) ((plS t n).off+(plS t n).len)).map Ev.c) R (Rx)<|zp (Aa R R Bk)<|XL.step R (Af (l':= [.own 7601, .d (.sl 4 (x2.tups.map Tp.c))]) R R R R O8 R lb (by kernel_rfl))<|zn<|zs<|zr<|zm R R<|zp (A5 R R R)<|zn<|?_
 refine zd R (fun c72i=> ?_) (fun c72i=> ?_)
 refine zr<|zp (Ae (s':= .d (.agg [.v (.slice none 0 0), .v (.slice none 0 0)])) (Ac (Ay R C0 Ba R)) (by kernel_rfl))<|zm R R<|XL.step R (Af (l':= [.d (.v (.slice none 0 0)), .d (.v (.slice none 0 0))]) R R R R Bm R lb (by kernel_rfl))<|za R R<|zn<|zt<|?_
 exact Ks R (by repeat (first|exact GL.z|refine GL.k ?_ rfl|refine GL.f ?_ rfl|refine GL.p ?_ rfl)) (Ki (rs2 R (RV.sub (RV.cells R R R Aq lb R) (.agg (.cons (.nil 13) (.cons (.nil 4) (.nil))))) (RV.tmp R R)) (congrArg S.d (Nn (As0 (by unfold Vo.same;omega) c57i c72i)))) (gz ⟨R,R,R,R,R,R,trivial⟩)
 refine zi<|zs<|?_
 have hEc:=Afv hEv (Wn (plS t n).m ((plS t n).off+(plS m.h.m m.h.len).len) ((plS t n).off+(plS t n).len))
 refine Ih (i:=7601) R<|Cq 5 [] (by kernel_rfl) (by kernel_rfl) (by kernel_rfl) (by kernel_rfl) (by decide)<|yp (Ae (s':= .d (.agg (Vo.c (Ma x2 (plS m.h.m m.h.len) (plS t n))))) (Ac (Ad R R Aq R lb)) (by kernel_rfl))<|yp (Ae (s':= .d (.agg (Vo.c (Ma x2 (plS m.h.m m.h.len) (plS t n))))) (Ac (Ad R R Aq R lb)) (by kernel_rfl))<|?_
 refine yp (Aa R R C4)<|yp (Ab R R Ai R R)<|ChK.cons R (CStep.call R (J4 _ _ (by assumption)) R)<|?_
 refine ChK.nil ⟨by kernel_rfl, ?_⟩
 refine XL.step R (Af (l':= [.d (.sl 13 ((Ma x2 (plS m.h.m m.h.len) (plS t n)).evs.map Ev.c)), .d (.sl 4 ((Ma x2 (plS m.h.m m.h.len) (plS t n)).tups.map Tp.c))]) R R R R Bm R lb (by kernel_rfl))<|za R R<|zn<|zt<|?_
 exact Ks R (by repeat (first|exact GL.z|refine GL.k ?_ rfl|refine GL.f ?_ rfl|refine GL.p ?_ rfl)) (Ki (rs2 R (RV.cells R R R Aq lb R) (RV.tmp R R)) (congrArg S.d (Nn (Asz (by unfold Vo.same;omega) c57i c72i)))) (gz ⟨R,R,R,R,R,R,trivial⟩)
 refine ChFK.af R (CStep.pure (Ak R (by conv=>lhs;whnf)))<|?_
 refine ChFK.af R (CStep.pure (Ax R R R))<|ChFK.fl R (CStep.pure (Ax R R R)) (CStep.pure (Ax R R R))<|ChFK.af R (CStep.pure (Dv R R R (R) R F1 (Gs (Zi hk2a))))<|?_
 refine ChFK.st R (Z7 [] (l':=(mix Vo.u Vo.t ((x0.voices.take j).map (fun v=>(Et v (plS m.h.m m.h.len) (plS t n)).1)) (x0.voices.drop j)).set j [.d (.sl 13 (((Et x2 (plS m.h.m m.h.len) (plS t n)).1).evs.map Ev.c)), .d (.sl 4 (((Et x2 (plS m.h.m m.h.len) (plS t n)).1).tups.map Tp.c))]) R R R (B5 (Gc hx2)) R Bm R lb R R (List.set_set ..) (gz ⟨R,R,R,R,R,R,trivial⟩))<|?_
 refine ChFK.nil ⟨⟨by kernel_rfl,by kernel_rfl,by kernel_rfl⟩, ?_⟩
 refine XL.rowqT (i:=7502) (l':=mix Vo.u Vo.t ((x0.voices.take (j+1)).map (fun v=>(Et v (plS m.h.m m.h.len) (plS t n)).1)) (x0.voices.drop (j+1))) [] R (Tq hx2) (Rv [] _ _)<|za R R<|znr<|zm R R<|zp (A5 R R R)<|zn<|?_
 refine zd R (fun c83=> ?_) (fun c83=> ?_)
 refine zr<|?_
 refine zp (Ae (s':= .d (.agg [dI 0,dI 0,dI 0,dI 0,dI 0,dI 0,dI 0,dI 0,dI 0,dI 0,dI 0,dI 0,dB false,dI 0,dI 0,dI 0,dI 0,dI 0,dI 0, .v (.string ⟨#[]⟩), .v (.slice none 0 0), .v (.slice none 0 0)])) (Ac (Ay (r:= [.d (dI 0), .d (dI 0), .d (dI 0), .d (dI 0), .d (dI 0), .d (dI 0), .d (dI 0), .d (dI 0), .d (dI 0), .d (dI 0), .d (dI 0), .d (dI 0), .d (dB false), .d (dI 0), .d (dI 0), .d (dI 0), .d (dI 0), .d (dI 0), .d (dI 0), .d (.v (.string ⟨#[]⟩)), .d (.v (.slice none 0 0)), .d (.v (.slice none 0 0))]) R Dc Bz (by kernel_rfl))) (by kernel_rfl))<|?_
 refine zm R R<|XL.step R (Af (l':= [.d (dI 0), .d (dI 0), .d (dI 0), .d (dI 0), .d (dI 0), .d (dI 0), .d (dI 0), .d (dI 0), .d (dI 0), .d (dI 0), .d (dI 0), .d (dI 0), .d (dB false), .d (dI 0), .d (dI 0), .d (dI 0), .d (dI 0), .d (dI 0), .d (dI 0), .d (.v (.string ⟨#[]⟩)), .d (.v (.slice none 0 0)), .d (.v (.slice none 0 0))]) R R R R Cc R lb (by kernel_rfl))<|za R R<|zn<|zt<|?_
 exact Az R (RV.sub (RV.cells R R R A1 lb R) (.agg (.cons (.same R) (.cons (.same R) (.cons (.same R) (.cons (.same R) (.cons (.same R) (.cons (.same R) (.cons (.same R) (.cons (.same R) (.cons (.same R) (.cons (.same R) (.cons (.same R) (.cons (.same R) (.cons (.same R) (.cons (.same R) (.cons (.same R) (.cons (.same R) (.cons (.same R) (.cons (.same R) (.cons (.same R) (.cons (.same R) (.cons (.nil 3) (.cons (.nil 2) (.nil))))))))))))))))))))))))) (RV.tmp R R) (Vz (Ave c21 c33 (by first|exact hgo.symm.trans ((Anm hx0 (by rw [←hgv,Z5 hx2 (by omega)];omega)).trans (by rw [←hgv,Z5 hx2 (by omega)]))) (by omega)))
 refine zi<|Ag (by kernel_rfl)<|zp (An R R R (by omega) (by omega))<|zm R R<|zn<|?_
 exact Am (j+1) (⟨by omega,by rw [←Anl hx2 (by omega)];exact hgv⟩) (by omega) (fz ⟨sr,sr,sr,sr,sr,sr,sr,sr,sr,trivial⟩) (gz ⟨rfl,rfl,rfl,rfl,rfl,rfl,trivial⟩)
 have hk2b:j=x0.voices.length:=by omega
 refine As<|Af7 (i:=7502) R (Ap8 _ _) (by rw [Asn,hk2b,List.take_length,List.drop_length,List.append_nil])<|?_
 refine K1 (i:=7402) (l':=(mix Ce.u Ce.t ((m.cells.take k).map (C2 (plS m.h.m m.h.len) (plS t n))) (m.cells.drop k)).set k [.own 7501, .d (.sl 2 (((C2 (plS m.h.m m.h.len) (plS t n)) x0).voices.map Vo.c))]) [7501] R (F5 (I6 [] _ _) R) (Cu (I6 [] _ _) (D9 (R) (R)) _)<|Ag (by kernel_rfl)<|zp (Ak R (by conv=>lhs;whnf))<|?_
 refine zp (Ak R (by conv=>lhs;whnf))<|?_
 refine zp (Ip R R)<|zp (Aa R R G6)<|zp (Ae (s':= .own 7501) (Fs R R Pc R (B5 (Gc hx0)) R) R)<|?_
 refine XL.blurT (i:=7402) (k:=k) (m:=0) (l':=(mix Ce.u Ce.t ((m.cells.take k).map (C2 (plS m.h.m m.h.len) (plS t n))) (m.cells.drop k)).set k [.any, .d (.sl 2 (((C2 (plS m.h.m m.h.len) (plS t n)) x0).voices.map Vo.c))]) [] R (B5 (Gc hx0)) R (List.set_set ..) (Cu (I6 [] _ _) (D9 (R) (R)) _)<|zp (Pi (pd:= []) (cd:= [_]) R R R)<|?_
 refine XL.inl 900003 [(6, .ptr 6 0 0),(8, .d (.pt (Pl.c (plS m.h.m m.h.len)))),(10, .ptr 10 0 0),(11, .d (.pt (Pl.c (plS t n)))),(47, .d (dI m.cells.length)),(48, .d (dI k)),(87, .ptr 7402 k 0)] R R .d Ad7 Tryz.func64 R R lb (by simp only [List.forall_mem_cons];exact ⟨⟨Nat.le_of_ble_eq_true rfl,rfl⟩,⟨⟨Nat.le_of_ble_eq_true rfl,rfl⟩,⟨⟨Nat.le_of_ble_eq_true rfl,rfl⟩,⟨⟨Nat.le_of_ble_eq_true rfl,rfl⟩,⟨⟨Nat.le_of_ble_eq_true rfl,rfl⟩,⟨⟨Nat.le_of_ble_eq_true rfl,rfl⟩,⟨⟨Nat.le_of_ble_eq_true rfl,rfl⟩,fun p hp=>(by cases hp)⟩⟩⟩⟩⟩⟩⟩) fun u3=>?_
 refine zr<|za R R<|znr<|zp (Ak R (by conv=>lhs;whnf))<|?_
 refine zm R R<|XL.inl 900004 [(0, .own 7501),(1, .d (.fn 65 [] [.pt (Pl.c (plS t n))])),(4, .d (.v (.slice none 0 0)))] R R .d Adm Tryz.func99 R R lb (by simp only [List.forall_mem_cons];exact ⟨⟨Nat.le_of_ble_eq_true rfl,rfl⟩,⟨⟨Nat.le_of_ble_eq_true rfl,rfl⟩,⟨⟨Nat.le_of_ble_eq_true rfl,rfl⟩,fun p hp=>(by cases hp)⟩⟩⟩) fun u4=>zr<|za R R<|zn<|zs<|zr<|?_
 refine zp (Ak R (by conv=>lhs;whnf))<|?_
 refine zp (Bc R R R Tryz.underlying75)<|zm R R<|zn<|Ah<|?_
 refine A0 (α:=Nat) (fun q=>q≤(x0.clefs).length∧((x0.clefs).take q).filter (cfK (plS t n).len)=(x0.clefs).take q) (fun q=>mkF [(0, .own 7501),(1, .d (.fn 65 [] [.pt (Pl.c (plS t n))])),(7, .d (dI x0.clefs.length)),(8, .d (dI q))]) (fun q=>mkH [(6, .box [.d (dI 0), .d (dI 0), .d (dI 0), .d (dI 0), .d (dI 0), .d (dI 0), .d (dI 0), .d (dI 0), .d (dI 0), .d (dI 0), .d (dI 0), .d (dI 0), .d (dB false), .d (dI 0), .d (dI 0), .d (dI 0), .d (dI 0), .d (dI 0), .d (dI 0), .d (.v (.string ⟨#[]⟩)), .d (.v (.slice none 0 0)), .d (.v (.slice none 0 0))]),(10, .box [.d (dI (m.h.sh t n).site), .d (dI (m.h.sh t n).num), .d (dI (m.h.sh t n).m.count), .d (dI (m.h.sh t n).m.unit), .d (dI (m.h.sh t n).m.g0), .d (dI (m.h.sh t n).m.g1), .d (dI (m.h.sh t n).m.g2), .d (dI (m.h.sh t n).m.g3), .d (dI (m.h.sh t n).m.g4), .d (dI (m.h.sh t n).m.g5), .d (dI (m.h.sh t n).len), .d (dI (m.h.sh t n).fifths), .d (dB (m.h.sh t n).start), .d (dI (m.h.sh t n).fin), .d (dI (m.h.sh t n).ends), .d (dI (m.h.sh t n).jump), .d (dI (m.h.sh t n).labels), .d (dI (m.h.sh t n).swing), .d (dI (m.h.sh t n).brk), .d (.v (.string ⟨(m.h.sh t n).reh.toArray⟩)), .own 7401, .own 7402]),(7401, .row 119 3 ((m.tempi).map Tm.c)),(7402, .tree 78 2 [] ((mix Ce.u Ce.t ((m.cells.take k).map (C2 (plS m.h.m m.h.len) (plS t n))) (m.cells.drop k)).set k [.any, .d (.sl 2 (((C2 (plS m.h.m m.h.len) (plS t n)) x0).voices.map Vo.c))])),(7501, .row 84 2 ((x0.clefs).map Cf.c)),(900003, .ghost u3 [(6, .ptr 6 0 0),(8, .d (.pt (Pl.c (plS m.h.m m.h.len)))),(10, .ptr 10 0 0),(11, .d (.pt (Pl.c (plS t n)))),(47, .d (dI m.cells.length)),(48, .d (dI k)),(87, .ptr 7402 k 0)]),(900004, .ghost u4 [(0, .own 7501),(1, .d (.fn 65 [] [.pt (Pl.c (plS t n))])),(4, .d (.v (.slice none 0 0)))])]) (fun q=>(x0.clefs).length - q) (0) (⟨Nat.zero_le _,R⟩) ?_ ?_ ?_
 exact fz ⟨sr,sr,sr,sr,trivial⟩
 exact gz ⟨R,R,R,R,R,R,R,trivial⟩
 intro q hk0x
 obtain ⟨hk,hfk⟩:=hk0x
 refine zr<|zp (Au R R R)<|zn<|zs<|?_
 refine zd R (fun c9x=> ?_) (fun c9x=> ?_)
 obtain ⟨y,hy⟩:∃y,(x0.clefs)[q]? =some y:=Av (by omega)
 refine zi<|zs<|Ah<|zr<|zm R R<|za R R<|znr<|zm R R<|zp (Ak R (by conv=>lhs;whnf))<|?_
 refine zm R R<|zp (Ca R R R (R) R Od (by omega))<|zp (Ae (s':= .d (.agg (Cf.c y))) (El R R O4 R (Ct (hy)) lb) (by kernel_rfl))<|XL.callv1 (ds:= [_]) R R R (Afr _ _) R<|zn<|?_
 refine zd R (fun c16x=> ?_) (fun c16x=> ?_)
 refine zr<|zm R R<|za R R<|zn<|zt<|?_
 refine (Ee (l:= [(0, .own 7501),(1, .d (.fn 65 [] [.pt (Pl.c (plS t n))])),(4, .d (.v (.slice none 0 0)))]) (by kernel_rfl) (rs1 R (RV.tmp R R)) ?_).2
 refine za R R<|zn<|zs<|zr<|zm R R<|zp (Bf R R R)<|zn<|?_
 refine zd R (fun c12d=> ?_) (fun c12d=> ?_)
 exfalso;omega
 refine zi<|zs<|zr<|zm R R<|zp (An R R R (by omega) (by omega))<|za R R<|zn<|Ah<|?_
 refine A0 (α:=Nat × Nat × List Cf) (fun p=>DelG (cfK (plS t n).len) (x0.clefs) p.1 p.2.1 p.2.2) (fun p=>mkF [(0, .own 7501),(1, .d (.fn 65 [] [.pt (Pl.c (plS t n))])),(4, .d (.v (.slice none 0 0))),(5, .d (dI p.2.1)),(6, .d (dI p.1))]) (fun p=>mkH [(6, .box [.d (dI 0), .d (dI 0), .d (dI 0), .d (dI 0), .d (dI 0), .d (dI 0), .d (dI 0), .d (dI 0), .d (dI 0), .d (dI 0), .d (dI 0), .d (dI 0), .d (dB false), .d (dI 0), .d (dI 0), .d (dI 0), .d (dI 0), .d (dI 0), .d (dI 0), .d (.v (.string ⟨#[]⟩)), .d (.v (.slice none 0 0)), .d (.v (.slice none 0 0))]),(10, .box [.d (dI (m.h.sh t n).site), .d (dI (m.h.sh t n).num), .d (dI (m.h.sh t n).m.count), .d (dI (m.h.sh t n).m.unit), .d (dI (m.h.sh t n).m.g0), .d (dI (m.h.sh t n).m.g1), .d (dI (m.h.sh t n).m.g2), .d (dI (m.h.sh t n).m.g3), .d (dI (m.h.sh t n).m.g4), .d (dI (m.h.sh t n).m.g5), .d (dI (m.h.sh t n).len), .d (dI (m.h.sh t n).fifths), .d (dB (m.h.sh t n).start), .d (dI (m.h.sh t n).fin), .d (dI (m.h.sh t n).ends), .d (dI (m.h.sh t n).jump), .d (dI (m.h.sh t n).labels), .d (dI (m.h.sh t n).swing), .d (dI (m.h.sh t n).brk), .d (.v (.string ⟨(m.h.sh t n).reh.toArray⟩)), .own 7401, .own 7402]),(7401, .row 119 3 ((m.tempi).map Tm.c)),(7402, .tree 78 2 [] ((mix Ce.u Ce.t ((m.cells.take k).map (C2 (plS m.h.m m.h.len) (plS t n))) (m.cells.drop k)).set k [.any, .d (.sl 2 (((C2 (plS m.h.m m.h.len) (plS t n)) x0).voices.map Vo.c))])),(7501, .row 84 2 (p.2.2.map Cf.c)),(900003, .ghost u3 [(6, .ptr 6 0 0),(8, .d (.pt (Pl.c (plS m.h.m m.h.len)))),(10, .ptr 10 0 0),(11, .d (.pt (Pl.c (plS t n)))),(47, .d (dI m.cells.length)),(48, .d (dI k)),(87, .ptr 7402 k 0)])]) (fun p=>(x0.clefs).length - p.1) ((q+1,q,x0.clefs)) (DelG.start hy (Ak3 c16x) hfk) ?_ ?_ ?_
 exact fz ⟨sr,sr,sr,sr,sr,trivial⟩
 exact gz ⟨R,R,R,R,R,R,trivial⟩
 intro p hk0d
 have hD:=hk0d
 have hlt:=hD.lt
 have hle:=hD.le
 have hlen:=hD.len
 refine zs<|zr<|zm R R<|zp (Ak R (by conv=>lhs;whnf))<|?_
 refine zp (Bc R R R Tryz.underlying75)<|zp (Au R R R)<|zn<|?_
 refine zd R (fun c19d=> ?_) (fun c19d=> ?_)
 obtain ⟨z,hz⟩:∃z,(x0.clefs)[p.1]? =some z:=Av (by omega)
 obtain ⟨w,hw⟩:∃w,p.2.2[p.2.1]? =some w:=Av (by omega)
 refine zi<|zs<|Ah<|zr<|zp (Ak R (by conv=>lhs;whnf))<|?_
 refine zm R R<|zp (Ca R R R (R) R Od (by have:=hD.len;omega))<|zp (Ae (s':= .d (.agg (Cf.c z))) (El R R O4 R (Ct (hD.get hz)) lb) (by kernel_rfl))<|XL.step R (Ap 3007 (l:= [.d (dI 0), .d (dI 0)]) R Vf (by kernel_rfl))<|XL.step R (Af (l':= [.d (dI z.tk), .d (dI z.clef)]) R R R R Agk R lb (by kernel_rfl))<|znr<|zm R R<|?_
 refine zp (Ae (s':= .d (.agg (Cf.c z))) (Ac (Ad R R O4 R lb)) (by kernel_rfl))<|XL.callv1 (ds:= [_]) R R R (Afr _ _) R<|zp (Eq R R)<|zn<|?_
 refine zd R (fun c29d=> ?_) (fun c29d=> ?_)
 refine zr<|zp (Ak R (by conv=>lhs;whnf))<|?_
 refine zm R R<|zp (Ae (s':= .d (.agg (Cf.c z))) (Ac (Ad R R O4 R lb)) (by kernel_rfl))<|zp (Ca R R R (R) R Od (by have:=hD.lt;have:=hD.len;omega))<|XL.step R (D2 R R R (Ct hw) R R Agk R lb)<|zng<|zm R R<|zp (An R R R (by omega) (by omega))<|za R R<|zn<|Ag (by kernel_rfl)<|zm R R<|zp (An R R R (by omega) (by omega))<|za R R<|zn<|?_
 exact Am ((p.1+1,p.2.1+1,p.2.2.set p.2.1 z)) (hD.put hz (Af4 c29d)) (by show (x0.clefs).length - (p.1+1)<(x0.clefs).length - p.1;omega) (fz ⟨sr,sr,sr,sr,sr,trivial⟩) (gz ⟨R,R,R,R,Qm R R,R,trivial⟩)
 refine zi<|Ag (by kernel_rfl)<|zm R R<|zp (An R R R (by omega) (by omega))<|za R R<|zn<|?_
 exact Am ((p.1+1,p.2.1,p.2.2)) (hD.keep hz (Ak3 (Decidable.not_not.1 c29d))) (by show (x0.clefs).length - (p.1+1)<(x0.clefs).length - p.1;omega) (fz ⟨sr,sr,sr,sr,sr,trivial⟩) (gz ⟨R,R,R,R,R,R,trivial⟩)
 have hfin:=hD.fin (by omega)
 refine As<|zr<|zp (Ak R (by conv=>lhs;whnf))<|?_
 refine zm R R<|zp (Ls R R R Od (Bd.at R) Bd.no (by rw [List.length_map];have:=hD.lt;have:=hD.le;have:=hD.len;omega) (Nat.le_refl _))<|XL.step R (Td (l2:=(p.2.2.take p.2.1++List.replicate (p.2.2.length - p.2.1) (⟨0,0⟩:Cf)).map Cf.c) (zs:= [dI 0,dI 0]) R (.sub R) Tryz.underlying75 Vf (by kernel_rfl) (by kernel_rfl) (by decide) (by omega) (hD.clr R))<|znr<|?_
 refine zp (Ak R (by conv=>lhs;whnf))<|?_
 refine zm R R<|XL.step R (Jl R R R Od (.at R) (by rw [List.length_map,List.length_append,List.length_take,List.length_replicate];have:=hD.lt;have:=hD.le;have:=hD.len;omega))<|zp (Ar R (by conv=>lhs;whnf))<|?_
 refine zn<|zt<|?_
 refine (Ee (l:= [(6, .ptr 6 0 0),(8, .d (.pt (Pl.c (plS m.h.m m.h.len)))),(10, .ptr 10 0 0),(11, .d (.pt (Pl.c (plS t n)))),(47, .d (dI m.cells.length)),(48, .d (dI k)),(87, .ptr 7402 k 0)]) (by kernel_rfl) (C1 R (RVS.tmp R R)) ?_).2
 refine zp (Ip R R)<|zp (Aa R R G6)<|XL.step R (D1 [7501] (l':=(mix Ce.u Ce.t ((m.cells.take k).map (C2 (plS m.h.m m.h.len) (plS t n))) (m.cells.drop k)).set k [.own 7501, .d (.sl 2 (((C2 (plS m.h.m m.h.len) (plS t n)) x0).voices.map Vo.c))]) R R R (B5 (Gc hx0)) R Agl R lb R R (List.set_set ..))<|zn<|Ag (by kernel_rfl)<|?_
 refine XL.rowq (i:=7501) (l':=(((C2 (plS m.h.m m.h.len) (plS t n)) x0).clefs).map Cf.c) R (by first|exact hD.cut.trans (congrArg (List.map Cf.c) hfin)|exact congrArg (List.map Cf.c) hfx.symm)<|XL.freeze (i:=7501) R<|?_
 refine XL.rowqT (i:=7402) (l':=(mix Ce.u Ce.t ((m.cells.take k).map (C2 (plS m.h.m m.h.len) (plS t n))) (m.cells.drop k)).set k [.d (.sl 2 ((((C2 (plS m.h.m m.h.len) (plS t n)) x0).clefs).map Cf.c)), .d (.sl 2 (((C2 (plS m.h.m m.h.len) (plS t n)) x0).voices.map Vo.c))]) [] R (F5 (I6 [] _ _) R) (Cu (I6 [] _ _) (D9 (R) (R)) _)<|?_
 refine XL.rowqT (i:=7402) (l':=mix Ce.u Ce.t ((m.cells.take (k+1)).map (C2 (plS m.h.m m.h.len) (plS t n))) (m.cells.drop (k+1))) [] R (Tq hx0) (I6 [] _ _)<|zp (An R R R (by omega) (by omega))<|zm R R<|zn<|?_
 exact Am (k+1) (⟨by omega,by rw [←Z6 hx0 (by rw [←hgv,hk2b,List.drop_length];rfl)];exact hgo⟩) (by omega) (fz ⟨sr,sr,sr,sr,sr,sr,trivial⟩) (gz ⟨rfl,rfl,rfl,rfl,trivial⟩)
 refine zi<|Ag (by kernel_rfl)<|zp (An R R R (by omega) (by omega))<|zm R R<|zn<|?_
 exact Am (q+1) (⟨by omega,by rw [T6 hy (Af4 c16x),hfk, ←By hy]⟩) (by omega) (fz ⟨sr,sr,sr,sr,trivial⟩) (gz ⟨rfl,rfl,rfl,rfl,rfl,rfl,rfl,trivial⟩)
 have hfx:(x0.clefs).filter (cfK (plS t n).len)=x0.clefs:=by rw [show q=(x0.clefs).length by omega,List.take_length] at hfk;exact hfk
 refine As<|zr<|za R R<|zn<|zt<|?_
 refine (Ee (l:= [(0, .own 7501),(1, .d (.fn 65 [] [.pt (Pl.c (plS t n))])),(4, .d (.v (.slice none 0 0)))]) (by kernel_rfl) (rs1 R (RV.tmp R R)) ?_).2
 refine za R R<|zn<|zs<|zr<|zm R R<|zp (D4 (Bf R R R) (by decide))<|zn<|Aw (by kernel_rfl) R<|zr<|zp (Ak R (by conv=>lhs;whnf))<|?_
 refine zp (Ar R (by conv=>lhs;whnf))<|?_
 refine zn<|zt<|?_
 refine (Ee (l:= [(6, .ptr 6 0 0),(8, .d (.pt (Pl.c (plS m.h.m m.h.len)))),(10, .ptr 10 0 0),(11, .d (.pt (Pl.c (plS t n)))),(47, .d (dI m.cells.length)),(48, .d (dI k)),(87, .ptr 7402 k 0)]) (by kernel_rfl) (C1 R (RVS.tmp R R)) ?_).2
 refine zp (Ip R R)<|zp (Aa R R G6)<|XL.step R (D1 [7501] (l':=(mix Ce.u Ce.t ((m.cells.take k).map (C2 (plS m.h.m m.h.len) (plS t n))) (m.cells.drop k)).set k [.own 7501, .d (.sl 2 (((C2 (plS m.h.m m.h.len) (plS t n)) x0).voices.map Vo.c))]) R R R (B5 (Gc hx0)) R Agl R lb R R (List.set_set ..))<|zn<|Ag (by kernel_rfl)<|?_
 refine XL.rowq (i:=7501) (l':=(((C2 (plS m.h.m m.h.len) (plS t n)) x0).clefs).map Cf.c) R (by first|exact hD.cut.trans (congrArg (List.map Cf.c) hfin)|exact congrArg (List.map Cf.c) hfx.symm)<|XL.freeze (i:=7501) R<|?_
 refine XL.rowqT (i:=7402) (l':=(mix Ce.u Ce.t ((m.cells.take k).map (C2 (plS m.h.m m.h.len) (plS t n))) (m.cells.drop k)).set k [.d (.sl 2 ((((C2 (plS m.h.m m.h.len) (plS t n)) x0).clefs).map Cf.c)), .d (.sl 2 (((C2 (plS m.h.m m.h.len) (plS t n)) x0).voices.map Vo.c))]) [] R (F5 (I6 [] _ _) R) (Cu (I6 [] _ _) (D9 (R) (R)) _)<|?_
 refine XL.rowqT (i:=7402) (l':=mix Ce.u Ce.t ((m.cells.take (k+1)).map (C2 (plS m.h.m m.h.len) (plS t n))) (m.cells.drop (k+1))) [] R (Tq hx0) (I6 [] _ _)<|zp (An R R R (by omega) (by omega))<|zm R R<|zn<|?_
 exact Am (k+1) (⟨by omega,by rw [←Z6 hx0 (by rw [←hgv,hk2b,List.drop_length];rfl)];exact hgo⟩) (by omega) (fz ⟨sr,sr,sr,sr,sr,sr,trivial⟩) (gz ⟨rfl,rfl,rfl,rfl,trivial⟩)
 have hk0b:k=m.cells.length:=by omega
 refine As<|zr<|zp (Aa R R Ek)<|zp (Ab R R Lf R R)<|zp (Pi (pd:= []) (cd:= [_]) R R R)<|XL.inl 900005 [(6, .ptr 6 0 0),(10, .ptr 10 0 0)] R R .d Ad5 Tryz.func66 R R lb (by simp only [List.forall_mem_cons];exact ⟨⟨Nat.le_of_ble_eq_true rfl,rfl⟩,⟨⟨Nat.le_of_ble_eq_true rfl,rfl⟩,fun p hp=>(by cases hp)⟩⟩) fun u5=>zr<|za R R<|znr<|?_
 refine zp (Ak R (by conv=>lhs;whnf))<|?_
 refine zm R R<|XL.inl 900006 [(0, .own 7401),(1, .d (.fn 67 [] [.pt (Pl.c (plS t n))])),(4, .d (.v (.slice none 0 0)))] R R .d Acs Tryz.func100 R R lb (by simp only [List.forall_mem_cons];exact ⟨⟨Nat.le_of_ble_eq_true rfl,rfl⟩,⟨⟨Nat.le_of_ble_eq_true rfl,rfl⟩,⟨⟨Nat.le_of_ble_eq_true rfl,rfl⟩,fun p hp=>(by cases hp)⟩⟩⟩) fun u6=>zr<|za R R<|zn<|zs<|zr<|?_
 refine zp (Ak R (by conv=>lhs;whnf))<|?_
 refine zp (Bc R R R Tryz.underlying27)<|zm R R<|zn<|Ah<|?_
 refine A0 (α:=Nat) (fun q=>q≤(m.tempi).length∧((m.tempi).take q).filter (tmK (plS t n).len)=(m.tempi).take q) (fun q=>mkF [(0, .own 7401),(1, .d (.fn 67 [] [.pt (Pl.c (plS t n))])),(7, .d (dI m.tempi.length)),(8, .d (dI q))]) (fun q=>mkH [(6, .box [.d (dI 0), .d (dI 0), .d (dI 0), .d (dI 0), .d (dI 0), .d (dI 0), .d (dI 0), .d (dI 0), .d (dI 0), .d (dI 0), .d (dI 0), .d (dI 0), .d (dB false), .d (dI 0), .d (dI 0), .d (dI 0), .d (dI 0), .d (dI 0), .d (dI 0), .d (.v (.string ⟨#[]⟩)), .d (.v (.slice none 0 0)), .d (.v (.slice none 0 0))]),(10, .box [.d (dI (m.h.sh t n).site), .d (dI (m.h.sh t n).num), .d (dI (m.h.sh t n).m.count), .d (dI (m.h.sh t n).m.unit), .d (dI (m.h.sh t n).m.g0), .d (dI (m.h.sh t n).m.g1), .d (dI (m.h.sh t n).m.g2), .d (dI (m.h.sh t n).m.g3), .d (dI (m.h.sh t n).m.g4), .d (dI (m.h.sh t n).m.g5), .d (dI (m.h.sh t n).len), .d (dI (m.h.sh t n).fifths), .d (dB (m.h.sh t n).start), .d (dI (m.h.sh t n).fin), .d (dI (m.h.sh t n).ends), .d (dI (m.h.sh t n).jump), .d (dI (m.h.sh t n).labels), .d (dI (m.h.sh t n).swing), .d (dI (m.h.sh t n).brk), .d (.v (.string ⟨(m.h.sh t n).reh.toArray⟩)), .own 7401, .own 7402]),(7401, .row 119 3 ((m.tempi).map Tm.c)),(7402, .tree 78 2 [] (mix Ce.u Ce.t ((m.cells.take k).map (C2 (plS m.h.m m.h.len) (plS t n))) (m.cells.drop k))),(900005, .ghost u5 [(6, .ptr 6 0 0),(10, .ptr 10 0 0)]),(900006, .ghost u6 [(0, .own 7401),(1, .d (.fn 67 [] [.pt (Pl.c (plS t n))])),(4, .d (.v (.slice none 0 0)))])]) (fun q=>(m.tempi).length - q) (0) (⟨Nat.zero_le _,R⟩) ?_ ?_ ?_
 exact fz ⟨sr,sr,sr,sr,trivial⟩
 exact gz ⟨R,R,R,R,R,R,trivial⟩
 intro q hk0x
 obtain ⟨hk,hfk⟩:=hk0x
 refine zr<|zp (Au R R R)<|zn<|zs<|?_
 refine zd R (fun c9x=> ?_) (fun c9x=> ?_)
 obtain ⟨y,hy⟩:∃y,(m.tempi)[q]? =some y:=Av (by omega)
 refine zi<|zs<|Ah<|zr<|zm R R<|za R R<|znr<|zm R R<|zp (Ak R (by conv=>lhs;whnf))<|?_
 refine zm R R<|zp (Ca R R R (R) R Mn (by omega))<|zp (Ae (s':= .d (.agg (Tm.c y))) (El R R My R (Ct (hy)) lb) (by kernel_rfl))<|XL.callv1 (ds:= [_]) R R R (Afq _ _) R<|zn<|?_
 refine zd R (fun c16x=> ?_) (fun c16x=> ?_)
 refine zr<|zm R R<|za R R<|zn<|zt<|?_
 refine (Ee (l:= [(0, .own 7401),(1, .d (.fn 67 [] [.pt (Pl.c (plS t n))])),(4, .d (.v (.slice none 0 0)))]) (by kernel_rfl) (rs1 R (RV.tmp R R)) ?_).2
 refine za R R<|zn<|zs<|zr<|zm R R<|zp (Bf R R R)<|zn<|?_
 refine zd R (fun c12d=> ?_) (fun c12d=> ?_)
 exfalso;omega
 refine zi<|zs<|zr<|zm R R<|zp (An R R R (by omega) (by omega))<|za R R<|zn<|Ah<|?_
 refine A0 (α:=Nat × Nat × List Tm) (fun p=>DelG (tmK (plS t n).len) (m.tempi) p.1 p.2.1 p.2.2) (fun p=>mkF [(0, .own 7401),(1, .d (.fn 67 [] [.pt (Pl.c (plS t n))])),(4, .d (.v (.slice none 0 0))),(5, .d (dI p.2.1)),(6, .d (dI p.1))]) (fun p=>mkH [(6, .box [.d (dI 0), .d (dI 0), .d (dI 0), .d (dI 0), .d (dI 0), .d (dI 0), .d (dI 0), .d (dI 0), .d (dI 0), .d (dI 0), .d (dI 0), .d (dI 0), .d (dB false), .d (dI 0), .d (dI 0), .d (dI 0), .d (dI 0), .d (dI 0), .d (dI 0), .d (.v (.string ⟨#[]⟩)), .d (.v (.slice none 0 0)), .d (.v (.slice none 0 0))]),(10, .box [.d (dI (m.h.sh t n).site), .d (dI (m.h.sh t n).num), .d (dI (m.h.sh t n).m.count), .d (dI (m.h.sh t n).m.unit), .d (dI (m.h.sh t n).m.g0), .d (dI (m.h.sh t n).m.g1), .d (dI (m.h.sh t n).m.g2), .d (dI (m.h.sh t n).m.g3), .d (dI (m.h.sh t n).m.g4), .d (dI (m.h.sh t n).m.g5), .d (dI (m.h.sh t n).len), .d (dI (m.h.sh t n).fifths), .d (dB (m.h.sh t n).start), .d (dI (m.h.sh t n).fin), .d (dI (m.h.sh t n).ends), .d (dI (m.h.sh t n).jump), .d (dI (m.h.sh t n).labels), .d (dI (m.h.sh t n).swing), .d (dI (m.h.sh t n).brk), .d (.v (.string ⟨(m.h.sh t n).reh.toArray⟩)), .own 7401, .own 7402]),(7401, .row 119 3 (p.2.2.map Tm.c)),(7402, .tree 78 2 [] (mix Ce.u Ce.t ((m.cells.take k).map (C2 (plS m.h.m m.h.len) (plS t n))) (m.cells.drop k))),(900005, .ghost u5 [(6, .ptr 6 0 0),(10, .ptr 10 0 0)])]) (fun p=>(m.tempi).length - p.1) ((q+1,q,m.tempi)) (DelG.start hy (Aig c16x) hfk) ?_ ?_ ?_
 exact fz ⟨sr,sr,sr,sr,sr,trivial⟩
 exact gz ⟨R,R,R,R,R,trivial⟩
 intro p hk0d
 have hD:=hk0d
 have hlt:=hD.lt
 have hle:=hD.le
 have hlen:=hD.len
 refine zs<|zr<|zm R R<|zp (Ak R (by conv=>lhs;whnf))<|?_
 refine zp (Bc R R R Tryz.underlying27)<|zp (Au R R R)<|zn<|?_
 refine zd R (fun c19d=> ?_) (fun c19d=> ?_)
 obtain ⟨z,hz⟩:∃z,(m.tempi)[p.1]? =some z:=Av (by omega)
 obtain ⟨w,hw⟩:∃w,p.2.2[p.2.1]? =some w:=Av (by omega)
 refine zi<|zs<|Ah<|zr<|zp (Ak R (by conv=>lhs;whnf))<|?_
 refine zm R R<|zp (Ca R R R (R) R Mn (by have:=hD.len;omega))<|zp (Ae (s':= .d (.agg (Tm.c z))) (El R R My R (Ct (hD.get hz)) lb) (by kernel_rfl))<|XL.step R (Ap 5007 (l:= [.d (dI 0), .d (dI 0), .d (dB false)]) R Mz (by kernel_rfl))<|XL.step R (Af (l':= [.d (dI z.tk), .d (dI z.micros), .d (dB z.ramp)]) R R R R Qd R lb (by kernel_rfl))<|?_
 refine znr<|zm R R<|zp (Ae (s':= .d (.agg (Tm.c z))) (Ac (Ad R R My R lb)) (by kernel_rfl))<|XL.callv1 (ds:= [_]) R R R (Afq _ _) R<|zp (Eq R R)<|zn<|?_
 refine zd R (fun c29d=> ?_) (fun c29d=> ?_)
 refine zr<|zp (Ak R (by conv=>lhs;whnf))<|?_
 refine zm R R<|zp (Ae (s':= .d (.agg (Tm.c z))) (Ac (Ad R R My R lb)) (by kernel_rfl))<|zp (Ca R R R (R) R Mn (by have:=hD.lt;have:=hD.len;omega))<|XL.step R (D2 R R R (Ct hw) R R Qd R lb)<|zng<|zm R R<|zp (An R R R (by omega) (by omega))<|za R R<|zn<|Ag (by kernel_rfl)<|zm R R<|zp (An R R R (by omega) (by omega))<|za R R<|zn<|?_
 exact Am ((p.1+1,p.2.1+1,p.2.2.set p.2.1 z)) (hD.put hz (Ae0 c29d)) (by show (m.tempi).length - (p.1+1)<(m.tempi).length - p.1;omega) (fz ⟨sr,sr,sr,sr,sr,trivial⟩) (gz ⟨R,R,Qm R R,R,R,trivial⟩)
 refine zi<|Ag (by kernel_rfl)<|zm R R<|zp (An R R R (by omega) (by omega))<|za R R<|zn<|?_
 exact Am ((p.1+1,p.2.1,p.2.2)) (hD.keep hz (Aig (Decidable.not_not.1 c29d))) (by show (m.tempi).length - (p.1+1)<(m.tempi).length - p.1;omega) (fz ⟨sr,sr,sr,sr,sr,trivial⟩) (gz ⟨R,R,R,R,R,trivial⟩)
 have hfin:=hD.fin (by omega)
 refine As<|zr<|zp (Ak R (by conv=>lhs;whnf))<|?_
 refine zm R R<|zp (Ls R R R Mn (Bd.at R) Bd.no (by rw [List.length_map];have:=hD.lt;have:=hD.le;have:=hD.len;omega) (Nat.le_refl _))<|XL.step R (Td (l2:=(p.2.2.take p.2.1++List.replicate (p.2.2.length - p.2.1) (⟨0,0,false⟩:Tm)).map Tm.c) (zs:= [dI 0,dI 0,dB false]) R (.sub R) Tryz.underlying27 Mz (by kernel_rfl) (by kernel_rfl) (by decide) (by omega) (hD.clr R))<|?_
 refine znr<|zp (Ak R (by conv=>lhs;whnf))<|?_
 refine zm R R<|XL.step R (Jl R R R Mn (.at R) (by rw [List.length_map,List.length_append,List.length_take,List.length_replicate];have:=hD.lt;have:=hD.le;have:=hD.len;omega))<|zp (Ar R (by conv=>lhs;whnf))<|?_
 refine zn<|zt<|?_
 refine (Ee (l:= [(6, .ptr 6 0 0),(10, .ptr 10 0 0)]) (by kernel_rfl) (C1 R (RVS.tmp R R)) ?_).2
 refine zp (Aa R R Ek)<|?_
 refine XL.step R (Af (l':= [.d (dI (m.h.sh t n).site), .d (dI (m.h.sh t n).num), .d (dI (m.h.sh t n).m.count), .d (dI (m.h.sh t n).m.unit), .d (dI (m.h.sh t n).m.g0), .d (dI (m.h.sh t n).m.g1), .d (dI (m.h.sh t n).m.g2), .d (dI (m.h.sh t n).m.g3), .d (dI (m.h.sh t n).m.g4), .d (dI (m.h.sh t n).m.g5), .d (dI (m.h.sh t n).len), .d (dI (m.h.sh t n).fifths), .d (dB (m.h.sh t n).start), .d (dI (m.h.sh t n).fin), .d (dI (m.h.sh t n).ends), .d (dI (m.h.sh t n).jump), .d (dI (m.h.sh t n).labels), .d (dI (m.h.sh t n).swing), .d (dI (m.h.sh t n).brk), .d (.v (.string ⟨(m.h.sh t n).reh.toArray⟩)), .own 7401, .own 7402]) R R R R Ul R lb (by kernel_rfl))<|?_
 refine znr<|XL.rowq (i:=7401) (l':=(m.tempi.filter (tmK (plS t n).len)).map Tm.c) R (by first|exact hD.cut.trans (congrArg (List.map Tm.c) hfin)|exact congrArg (List.map Tm.c) hfx.symm)<|XL.freeze (i:=7401) R<|XL.freezeT (i:=7402) R (Afk _ _) (by rw [Ajn,hk0b,List.take_length,List.drop_length,List.append_nil])<|?_
 refine zp (Ae (s':= .d (.agg [dI (m.h.sh t n).site,dI (m.h.sh t n).num,dI (m.h.sh t n).m.count,dI (m.h.sh t n).m.unit,dI (m.h.sh t n).m.g0,dI (m.h.sh t n).m.g1,dI (m.h.sh t n).m.g2,dI (m.h.sh t n).m.g3,dI (m.h.sh t n).m.g4,dI (m.h.sh t n).m.g5,dI (m.h.sh t n).len,dI (m.h.sh t n).fifths,dB (m.h.sh t n).start,dI (m.h.sh t n).fin,dI (m.h.sh t n).ends,dI (m.h.sh t n).jump,dI (m.h.sh t n).labels,dI (m.h.sh t n).swing,dI (m.h.sh t n).brk, .v (.string ⟨(m.h.sh t n).reh.toArray⟩), .sl 3 ((m.tempi.filter (tmK (plS t n).len)).map Tm.c), .sl 2 ((m.cells.map (C2 (plS m.h.m m.h.len) (plS t n))).map Ce.c)])) (Ac (Ad R R A1 R lb)) (by kernel_rfl))<|?_
 refine XL.step R (Af (l':= [.d (dI (m.h.sh t n).site), .d (dI (m.h.sh t n).num), .d (dI (m.h.sh t n).m.count), .d (dI (m.h.sh t n).m.unit), .d (dI (m.h.sh t n).m.g0), .d (dI (m.h.sh t n).m.g1), .d (dI (m.h.sh t n).m.g2), .d (dI (m.h.sh t n).m.g3), .d (dI (m.h.sh t n).m.g4), .d (dI (m.h.sh t n).m.g5), .d (dI (m.h.sh t n).len), .d (dI (m.h.sh t n).fifths), .d (dB (m.h.sh t n).start), .d (dI (m.h.sh t n).fin), .d (dI (m.h.sh t n).ends), .d (dI (m.h.sh t n).jump), .d (dI (m.h.sh t n).labels), .d (dI (m.h.sh t n).swing), .d (dI (m.h.sh t n).brk), .d (.v (.string ⟨(m.h.sh t n).reh.toArray⟩)), .d (.sl 3 ((m.tempi.filter (tmK (plS t n).len)).map Tm.c)), .d (.sl 2 ((m.cells.map (C2 (plS m.h.m m.h.len) (plS t n))).map Ce.c))]) R R R R Cc R lb (by kernel_rfl))<|?_
 refine za R R<|zn<|zt<|?_
 exact Az R (RV.cells R R R A1 lb R) (RV.tmp R R) (Vz (As3 c21 c33 (by rw [←hgo,hk0b,List.drop_length];rfl)))
 refine zi<|Ag (by kernel_rfl)<|zp (An R R R (by omega) (by omega))<|zm R R<|zn<|?_
 exact Am (q+1) (⟨by omega,by rw [T6 hy (Ae0 c16x),hfk, ←By hy]⟩) (by omega) (fz ⟨sr,sr,sr,sr,trivial⟩) (gz ⟨rfl,rfl,rfl,rfl,rfl,rfl,trivial⟩)
 have hfx:(m.tempi).filter (tmK (plS t n).len)=m.tempi:=by rw [show q=(m.tempi).length by omega,List.take_length] at hfk;exact hfk
 refine As<|zr<|za R R<|zn<|zt<|?_
 refine (Ee (l:= [(0, .own 7401),(1, .d (.fn 67 [] [.pt (Pl.c (plS t n))])),(4, .d (.v (.slice none 0 0)))]) (by kernel_rfl) (rs1 R (RV.tmp R R)) ?_).2
 refine za R R<|zn<|zs<|zr<|zm R R<|zp (D4 (Bf R R R) (by decide))<|zn<|Aw (by kernel_rfl) R<|zr<|zp (Ak R (by conv=>lhs;whnf))<|?_
 refine zp (Ar R (by conv=>lhs;whnf))<|?_
 refine zn<|zt<|?_
 refine (Ee (l:= [(6, .ptr 6 0 0),(10, .ptr 10 0 0)]) (by kernel_rfl) (C1 R (RVS.tmp R R)) ?_).2
 refine zp (Aa R R Ek)<|?_
 refine XL.step R (Af (l':= [.d (dI (m.h.sh t n).site), .d (dI (m.h.sh t n).num), .d (dI (m.h.sh t n).m.count), .d (dI (m.h.sh t n).m.unit), .d (dI (m.h.sh t n).m.g0), .d (dI (m.h.sh t n).m.g1), .d (dI (m.h.sh t n).m.g2), .d (dI (m.h.sh t n).m.g3), .d (dI (m.h.sh t n).m.g4), .d (dI (m.h.sh t n).m.g5), .d (dI (m.h.sh t n).len), .d (dI (m.h.sh t n).fifths), .d (dB (m.h.sh t n).start), .d (dI (m.h.sh t n).fin), .d (dI (m.h.sh t n).ends), .d (dI (m.h.sh t n).jump), .d (dI (m.h.sh t n).labels), .d (dI (m.h.sh t n).swing), .d (dI (m.h.sh t n).brk), .d (.v (.string ⟨(m.h.sh t n).reh.toArray⟩)), .own 7401, .own 7402]) R R R R Ul R lb (by kernel_rfl))<|?_
 refine znr<|XL.rowq (i:=7401) (l':=(m.tempi.filter (tmK (plS t n).len)).map Tm.c) R (by first|exact hD.cut.trans (congrArg (List.map Tm.c) hfin)|exact congrArg (List.map Tm.c) hfx.symm)<|XL.freeze (i:=7401) R<|XL.freezeT (i:=7402) R (Afk _ _) (by rw [Ajn,hk0b,List.take_length,List.drop_length,List.append_nil])<|?_
 refine zp (Ae (s':= .d (.agg [dI (m.h.sh t n).site,dI (m.h.sh t n).num,dI (m.h.sh t n).m.count,dI (m.h.sh t n).m.unit,dI (m.h.sh t n).m.g0,dI (m.h.sh t n).m.g1,dI (m.h.sh t n).m.g2,dI (m.h.sh t n).m.g3,dI (m.h.sh t n).m.g4,dI (m.h.sh t n).m.g5,dI (m.h.sh t n).len,dI (m.h.sh t n).fifths,dB (m.h.sh t n).start,dI (m.h.sh t n).fin,dI (m.h.sh t n).ends,dI (m.h.sh t n).jump,dI (m.h.sh t n).labels,dI (m.h.sh t n).swing,dI (m.h.sh t n).brk, .v (.string ⟨(m.h.sh t n).reh.toArray⟩), .sl 3 ((m.tempi.filter (tmK (plS t n).len)).map Tm.c), .sl 2 ((m.cells.map (C2 (plS m.h.m m.h.len) (plS t n))).map Ce.c)])) (Ac (Ad R R A1 R lb)) (by kernel_rfl))<|?_
 refine XL.step R (Af (l':= [.d (dI (m.h.sh t n).site), .d (dI (m.h.sh t n).num), .d (dI (m.h.sh t n).m.count), .d (dI (m.h.sh t n).m.unit), .d (dI (m.h.sh t n).m.g0), .d (dI (m.h.sh t n).m.g1), .d (dI (m.h.sh t n).m.g2), .d (dI (m.h.sh t n).m.g3), .d (dI (m.h.sh t n).m.g4), .d (dI (m.h.sh t n).m.g5), .d (dI (m.h.sh t n).len), .d (dI (m.h.sh t n).fifths), .d (dB (m.h.sh t n).start), .d (dI (m.h.sh t n).fin), .d (dI (m.h.sh t n).ends), .d (dI (m.h.sh t n).jump), .d (dI (m.h.sh t n).labels), .d (dI (m.h.sh t n).swing), .d (dI (m.h.sh t n).brk), .d (.v (.string ⟨(m.h.sh t n).reh.toArray⟩)), .d (.sl 3 ((m.tempi.filter (tmK (plS t n).len)).map Tm.c)), .d (.sl 2 ((m.cells.map (C2 (plS m.h.m m.h.len) (plS t n))).map Ce.c))]) R R R R Cc R lb (by kernel_rfl))<|?_
 refine za R R<|zn<|zt<|?_
 exact Az R (RV.cells R R R A1 lb R) (RV.tmp R R) (Vz (As3 c21 c33 (by rw [←hgo,hk0b,List.drop_length];rfl)))
end Go.Proofs.YtaafemnkamfgnaaGreat
namespace Go.Proofs.YtaafemnkamfgnaaGreat
open Go.RowKit
def kR (n:Int) (v:Val):Ev:=⟨1,n,2,v, [], [],0,0,0, [],0,0⟩
def Vx:Vo:=⟨[kR 1 ⟨1,0⟩,kR 2 ⟨2,0⟩], []⟩
def Vw:Vo:=⟨[kR 3 ⟨1,1⟩], []⟩
def kCe:Ce:=⟨[], [Vx,Vw]⟩
def kMe:Me:=⟨3,4,0,0,0,0,0,0⟩
def Kt:Me:=⟨4,4,0,0,0,0,0,0⟩
def kM:Ms:=⟨⟨0,0,kMe,0,0,false,0,0,0,0,0,0, []⟩, [], [kCe]⟩
def kSl:List Slt:= [⟨0,0,0,0,967680⟩,⟨0,0,1,967680,1451520⟩,⟨0,1,0,0,1451520⟩]
theorem Aj1 (n:Int) (v:Val):(kR n v).fit:=⟨Nat.zero_le _,Nat.zero_le _,Nat.zero_le _⟩
theorem Zs : kM.fit := ⟨by decide, by decide, fun c hc => by
 have:=List.mem_singleton.1 hc;subst this
 refine ⟨by decide,by decide,fun v hv=> ?_⟩
 simp only [kCe,List.mem_cons,List.not_mem_nil,or_false] at hv
 rcases hv with rfl|rfl
 ·exact ⟨by decide,by decide,fun e he=>by simp only [Vx,List.mem_cons,List.not_mem_nil,or_false] at he;rcases he with rfl|rfl<;>exact Aj1 _ _⟩
 ·exact ⟨by decide, by decide, fun e he => by simp only [Vw, List.mem_cons, List.not_mem_nil, or_false] at he; rcases he with rfl; exact Aj1 _ _⟩⟩
theorem Zt:kM.evs:=fun c hc v hv e he=>by
 have:=List.mem_singleton.1 hc;subst this
 simp only [kCe,List.mem_cons,List.not_mem_nil,or_false] at hv
 rcases hv with rfl|rfl
 ·simp only [Vx,List.mem_cons,List.not_mem_nil,or_false] at he;rcases he with rfl|rfl<;>decide
 ·simp only [Vw,List.mem_cons,List.not_mem_nil,or_false] at he;rcases he with rfl;decide
theorem Ajz:slE kM=0:=by decide+kernel
theorem Ajy:slL kM=kSl:=by decide+kernel
theorem Ast:mlE kMe 0=0:=by decide+kernel
theorem Ass:mlV kMe 0=1451520:=by decide+kernel
theorem Asu:Aai kM= [0,967680]:=by
 unfold Aai
 rw [Ajy,show kSl.map (·.on)= [0,967680,0] from rfl]
 have h1:srt [0,967680,0]= [0,0,967680]:=by
  have hp:([0,967680,0]:List Int).Perm [0,0,967680]:=by decide
  have e1:srt [0,967680,0]=srt [0,0,967680]:=by
   refine List.Perm.eq_of_pairwise (le:=fun a b=>decide (a≤b)=true) (fun a b _ _ h1 h2=>by simp at h1 h2;omega) (List.pairwise_mergeSort (fun a b c h1 h2=>by simp at h1 h2 ⊢;omega) (fun a b=>by simp;omega) _) (List.pairwise_mergeSort (fun a b c h1 h2=>by simp at h1 h2 ⊢;omega) (fun a b=>by simp;omega) _) ?_
   exact ((List.mergeSort_perm _ _).trans hp).trans (List.mergeSort_perm _ _).symm
  rw [e1]
  exact List.mergeSort_of_pairwise (by decide)
 rw [h1]
 decide+kernel
theorem Aok:J3 kM Kt 0=0:=by decide+kernel
theorem At5:Nr kM Kt 0=Ahj kM Kt 0 (plS kMe 0) (plS Kt 0):=by rw [Nr,Aok];rfl
theorem Aj0:(C2 (plS kMe 0) (plS Kt 0) kCe).voices.length=2:=by decide+kernel
theorem At6 : ∃ y, (C2 (plS kMe 0) (plS Kt 0) kCe).voices[1]? = some y ∧ y.evs.length = 2 := ⟨(C2 (plS kMe 0) (plS Kt 0) kCe).voices[1]'(by rw [Aj0]; decide), List.getElem?_eq_getElem _, by decide +kernel⟩
theorem Vp (n:Int) (v:Val):XC Tryz.prog 94 [.agg [dI 1,dI n], .agg (Val.c v)] (fun r=>r= .agg (Ev.c (kR n v))):=by
 refine Al Adp Tryz.func94 R R lb<|zr<|XL.step R (Ao 2 (l:= [.d (dI 1), .d (dI n)]) R R (by kernel_rfl))<|XL.step R (Ao 3 (l:= [.d (dI v.log), .d (dI v.dots)]) R R (by kernel_rfl))<|?_
 refine XL.step R (Ap 4 (l:= [.d (dI 0), .d (dI 0), .d (dI 0), .d (dI 0), .d (dI 0), .d (.v (.slice none 0 0)), .d (.v (.slice none 0 0)), .d (dI 0), .d (dI 0), .d (dI 0), .d (.v (.slice none 0 0)), .d (dI 0), .d (dI 0)]) R Ck (by kernel_rfl))<|znr<|zp (Ae (s':= .d (.agg [dI 1,dI n])) (Ac (Ad R R Nu R lb)) (by kernel_rfl))<|?_
 refine zp (Ae (s':= .d (.agg (Val.c v))) (Ac (Ad R R Eu R lb)) (by kernel_rfl))<|zp (Ae (s':= .d (.agg [dI 1,dI n,dI 2,dI v.log,dI v.dots, .v (.slice none 0 0), .v (.slice none 0 0),dI 0,dI 0,dI 0, .v (.slice none 0 0),dI 0,dI 0])) (Ac (Ay R Qf Ck R)) (by kernel_rfl))<|?_
 refine XL.step R (Af (l':= [.d (dI 1), .d (dI n), .d (dI 2), .d (dI v.log), .d (dI v.dots), .d (.v (.slice none 0 0)), .d (.v (.slice none 0 0)), .d (dI 0), .d (dI 0), .d (dI 0), .d (.v (.slice none 0 0)), .d (dI 0), .d (dI 0)]) R R R R C7 R lb (by kernel_rfl))<|zn<|zt<|?_
 exact Ji R (RV.sub (RV.cells R R R Bu lb R) (.agg (.cons (.same R) (.cons (.same R) (.cons (.same R) (.cons (.same R) (.cons (.same R) (.cons (.nil 5) (.cons (.nil 5) (.cons (.same R) (.cons (.same R) (.cons (.same R) (.cons (.nil 2) (.cons (.same R) (.cons (.same R) (.nil)))))))))))))))) (R)
theorem Mm  :XC Tryz.prog 55 [] (fun r=>r= .agg (Ms.c kM)):=by
 refine Al Aee Tryz.func55 R R lb<|zr<|XL.step R (Ap 0 (l:= [.d (dI 0), .d (dI 0), .d (dI 0), .d (dI 0), .d (dI 0), .d (dI 0), .d (dI 0), .d (dI 0), .d (dI 0), .d (dI 0), .d (dI 0), .d (dI 0), .d (dB false), .d (dI 0), .d (dI 0), .d (dI 0), .d (dI 0), .d (dI 0), .d (dI 0), .d (.v (.string ⟨#[]⟩)), .d (.v (.slice none 0 0)), .d (.v (.slice none 0 0))]) R Bz (by kernel_rfl))<|znr<|?_
 refine zp (Ae (s':= .d (.agg [dI 1,dI 1])) (Ac (Ay R Yn Vg R)) (by kernel_rfl))<|zp (Ae (s':= .d (.agg [dI 1,dI 0])) (Ac (Ay R Yl Fy R)) (by kernel_rfl))<|XL.call1 R R (Vp 1 ⟨1,0⟩) R<|zp (Ae (s':= .d (.agg [dI 1,dI 2])) (Ac (Ay R Yn Vg R)) (by kernel_rfl))<|?_
 refine zp (Ae (s':= .d (.agg [dI 2,dI 0])) (Ac (Ay R Yl Fy R)) (by kernel_rfl))<|XL.call1 R R (Vp 2 ⟨2,0⟩) R<|XL.step R (Ap 1 (l:= [.d (dI 0), .d (dI 0), .d (dI 0), .d (dI 0), .d (dI 0), .d (.v (.slice none 0 0)), .d (.v (.slice none 0 0)), .d (dI 0), .d (dI 0), .d (dI 0), .d (.v (.slice none 0 0)), .d (dI 0), .d (dI 0)]) R Ck (by kernel_rfl))<|?_
 refine XL.step R (Ap 2 (l:= [.d (dI 0), .d (dI 0), .d (dI 0), .d (dI 0), .d (dI 0), .d (.v (.slice none 0 0)), .d (.v (.slice none 0 0)), .d (dI 0), .d (dI 0), .d (dI 0), .d (.v (.slice none 0 0)), .d (dI 0), .d (dI 0)]) R Ck (by kernel_rfl))<|?_
 refine XL.step R (Af (l':= [.d (dI (kR 1 ⟨1,0⟩).site), .d (dI (kR 1 ⟨1,0⟩).num), .d (dI (kR 1 ⟨1,0⟩).kind), .d (dI (kR 1 ⟨1,0⟩).v.log), .d (dI (kR 1 ⟨1,0⟩).v.dots), .d (.sl 5 ((kR 1 ⟨1,0⟩).heads.map Hd.c)), .d (.sl 5 ((kR 1 ⟨1,0⟩).graces.map Gr.c)), .d (dI (kR 1 ⟨1,0⟩).art), .d (dI (kR 1 ⟨1,0⟩).orn), .d (dI (kR 1 ⟨1,0⟩).dyn), .d (.sl 2 ((kR 1 ⟨1,0⟩).lyr.map Sy.c)), .d (dI (kR 1 ⟨1,0⟩).stem), .d (dI (kR 1 ⟨1,0⟩).beam)]) R R R R C7 R lb (by kernel_rfl))<|?_
 refine XL.step R (Af (l':= [.d (dI (kR 2 ⟨2,0⟩).site), .d (dI (kR 2 ⟨2,0⟩).num), .d (dI (kR 2 ⟨2,0⟩).kind), .d (dI (kR 2 ⟨2,0⟩).v.log), .d (dI (kR 2 ⟨2,0⟩).v.dots), .d (.sl 5 ((kR 2 ⟨2,0⟩).heads.map Hd.c)), .d (.sl 5 ((kR 2 ⟨2,0⟩).graces.map Gr.c)), .d (dI (kR 2 ⟨2,0⟩).art), .d (dI (kR 2 ⟨2,0⟩).orn), .d (dI (kR 2 ⟨2,0⟩).dyn), .d (.sl 2 ((kR 2 ⟨2,0⟩).lyr.map Sy.c)), .d (dI (kR 2 ⟨2,0⟩).stem), .d (dI (kR 2 ⟨2,0⟩).beam)]) R R R R C7 R lb (by kernel_rfl))<|?_
 refine znr<|zp (Ae (s':= .d (.agg [dI 1,dI 3])) (Ac (Ay R Yn Vg R)) (by kernel_rfl))<|zp (Ae (s':= .d (.agg [dI 1,dI 1])) (Ac (Ay R Yl Fy R)) (by kernel_rfl))<|XL.call1 R R (Vp 3 ⟨1,1⟩) R<|?_
 refine XL.step R (Ap 3 (l:= [.d (dI 0), .d (dI 0), .d (dI 0), .d (dI 0), .d (dI 0), .d (.v (.slice none 0 0)), .d (.v (.slice none 0 0)), .d (dI 0), .d (dI 0), .d (dI 0), .d (.v (.slice none 0 0)), .d (dI 0), .d (dI 0)]) R Ck (by kernel_rfl))<|?_
 refine XL.step R (Af (l':= [.d (dI (kR 3 ⟨1,1⟩).site), .d (dI (kR 3 ⟨1,1⟩).num), .d (dI (kR 3 ⟨1,1⟩).kind), .d (dI (kR 3 ⟨1,1⟩).v.log), .d (dI (kR 3 ⟨1,1⟩).v.dots), .d (.sl 5 ((kR 3 ⟨1,1⟩).heads.map Hd.c)), .d (.sl 5 ((kR 3 ⟨1,1⟩).graces.map Gr.c)), .d (dI (kR 3 ⟨1,1⟩).art), .d (dI (kR 3 ⟨1,1⟩).orn), .d (dI (kR 3 ⟨1,1⟩).dyn), .d (.sl 2 ((kR 3 ⟨1,1⟩).lyr.map Sy.c)), .d (dI (kR 3 ⟨1,1⟩).stem), .d (dI (kR 3 ⟨1,1⟩).beam)]) R R R R C7 R lb (by kernel_rfl))<|?_
 refine znr<|zp (Ae (s':= .d (.agg [dI 3,dI 4,dI 0,dI 0,dI 0,dI 0,dI 0,dI 0])) (Ac (Ay R Ail Aeu R)) (by kernel_rfl))<|zp (Ae (s':= .d (.agg (Ev.c (kR 1 ⟨1,0⟩)))) (Ac (Ad R R Bu R lb)) (by kernel_rfl))<|zp (Ae (s':= .d (.agg (Ev.c (kR 2 ⟨2,0⟩)))) (Ac (Ad R R Bu R lb)) (by kernel_rfl))<|?_
 refine XL.step R (Hi (l:= [kR 1 ⟨1,0⟩,kR 2 ⟨2,0⟩].map Ev.c) R Tryz.underlying79 C7 Ck (by kernel_rfl) R (by omega) (by omega))<|zp (Nc (.agg (Vo.c Vx)) (Ae (s':= .d (.agg [.sl 13 ([kR 1 ⟨1,0⟩,kR 2 ⟨2,0⟩].map Ev.c), .v (.slice none 0 0)])) (Ac (Ay R C0 Ba R)) (by kernel_rfl)) (.agg (.cons (.same R) (.cons (.nil 4) (.nil)))))<|?_
 refine zp (Ae (s':= .d (.agg (Ev.c (kR 3 ⟨1,1⟩)))) (Ac (Ad R R Bu R lb)) (by kernel_rfl))<|XL.step R (Hi (l:= [kR 3 ⟨1,1⟩].map Ev.c) R Tryz.underlying79 C7 Ck (by kernel_rfl) R (by omega) (by omega))<|?_
 refine zp (Nc (.agg (Vo.c Vw)) (Ae (s':= .d (.agg [.sl 13 ([kR 3 ⟨1,1⟩].map Ev.c), .v (.slice none 0 0)])) (Ac (Ay R C0 Ba R)) (by kernel_rfl)) (.agg (.cons (.same R) (.cons (.nil 4) (.nil)))))<|XL.step R (Hi (l:= [Vx,Vw].map Vo.c) R Tryz.underlying76 Bm Ba (by kernel_rfl) R (by omega) (by omega))<|?_
 refine zp (Nc (.agg (Ce.c kCe)) (Ae (s':= .d (.agg [.v (.slice none 0 0), .sl 2 ([Vx,Vw].map Vo.c)])) (Ac (Ay R Aik F8 R)) (by kernel_rfl)) (.agg (.cons (.nil 2) (.cons (.same R) (.nil)))))<|XL.step R (Hi (l:= [kCe].map Ce.c) R Tryz.underlying28 Ld F8 (by kernel_rfl) R (by omega) (by omega))<|?_
 refine zp (Nc (.agg (Ms.c kM)) (Ae (s':= .d (.agg [dI 0,dI 0,dI 3,dI 4,dI 0,dI 0,dI 0,dI 0,dI 0,dI 0,dI 0,dI 0,dB false,dI 0,dI 0,dI 0,dI 0,dI 0,dI 0, .v (.string ⟨#[]⟩), .v (.slice none 0 0), .sl 2 ([kCe].map Ce.c)])) (Ac (Ay (r:= [.d (dI 0), .d (dI 0), .d (dI 3), .d (dI 4), .d (dI 0), .d (dI 0), .d (dI 0), .d (dI 0), .d (dI 0), .d (dI 0), .d (dI 0), .d (dI 0), .d (dB false), .d (dI 0), .d (dI 0), .d (dI 0), .d (dI 0), .d (dI 0), .d (dI 0), .d (.v (.string ⟨#[]⟩)), .d (.v (.slice none 0 0)), .d (.sl 2 ([kCe].map Ce.c))]) R Dc Bz (by kernel_rfl))) (by kernel_rfl)) (.agg (.cons (.same R) (.cons (.same R) (.cons (.same R) (.cons (.same R) (.cons (.same R) (.cons (.same R) (.cons (.same R) (.cons (.same R) (.cons (.same R) (.cons (.same R) (.cons (.same R) (.cons (.same R) (.cons (.same R) (.cons (.same R) (.cons (.same R) (.cons (.same R) (.cons (.same R) (.cons (.same R) (.cons (.same R) (.cons (.same R) (.cons (.nil 3) (.cons (.same R) (.nil)))))))))))))))))))))))))<|?_
 refine XL.step R (Af (l':= [.d (dI kM.h.site), .d (dI kM.h.num), .d (dI kM.h.m.count), .d (dI kM.h.m.unit), .d (dI kM.h.m.g0), .d (dI kM.h.m.g1), .d (dI kM.h.m.g2), .d (dI kM.h.m.g3), .d (dI kM.h.m.g4), .d (dI kM.h.m.g5), .d (dI kM.h.len), .d (dI kM.h.fifths), .d (dB kM.h.start), .d (dI kM.h.fin), .d (dI kM.h.ends), .d (dI kM.h.jump), .d (dI kM.h.labels), .d (dI kM.h.swing), .d (dI kM.h.brk), .d (.v (.string ⟨kM.h.reh.toArray⟩)), .d (.sl 3 (kM.tempi.map Tm.c)), .d (.sl 2 (kM.cells.map Ce.c))]) R R R R Cc R lb (by kernel_rfl))<|?_
 refine zn<|zt<|?_
 exact Ji R (RV.cells R R R A1 lb R) (R)
theorem Ajx:XC Tryz.prog 20 [.agg (Ms.c kM)] (fun r=>r= .tup [.sl 5 (kSl.map Slt.c),dI 0]):=by
 have:=Yr kM Zs Zt
 rw [Ajy,Ajz] at this;exact this
theorem Aqj:XC Tryz.prog 21 [.agg (Ms.c kM)] (fun r=>r= .tup [.sl 1 (([0,967680]:List Int).map iv),dI 0]):=by
 have:=Ahs kM Zs Zt
 rw [Asu,Ajz] at this;exact this
def kF:Ms:=Ahj kM Kt 0 (plS kMe 0) (plS Kt 0)
theorem Aqi:XC Tryz.prog 28 [.agg (Ms.c kM), .agg (Me.c Kt),dI 0] (fun r=>r= .tup [.agg (Ms.c kF),dI 0]):=by
 have:=Ap9 kM Kt 0 Zs Zt
 rw [At5,Aok] at this;exact this
theorem Aqh:XC Tryz.prog 15 [.agg (Ms.c kM)] (fun r=>r= .tup [dI 1451520,dI 0]):=by
 have:=Lu kM.h kM.tempi kM.cells
 rw [show mlV kM.h.m kM.h.len=1451520 from Ass,show mlE kM.h.m kM.h.len=0 from Ast] at this;exact this
theorem Amw  :XC Tryz.prog 19 [] (fun r=>r=dB true):=by
 obtain ⟨y,hy,hyl⟩:=At6
 refine Al Aep Tryz.func19 R R lb<|zr<|za R R<|znr<|XL.call1 R R (Mm) R<|XL.call1 R R (Ajx) R<|zm R R<|zp (Ax R R R)<|zp (Ax R R R)<|za R R<|za R R<|znr<|XL.call1 R R (Mm) R<|XL.call1 R R (Aqj) R<|?_
 refine zm R R<|zp (Ax R R R)<|zp (Ax R R R)<|za R R<|za R R<|znr<|XL.call1 R R (Mm) R<|zp (Ae (s':= .d (.agg (Me.c Kt))) (Ac (Ay R Ail Aeu R)) (by kernel_rfl))<|XL.call1 R R (Aqi) R<|zm R R<|zp (Ax R R R)<|zp (Ax R R R)<|?_
 refine XL.step R (Ap 5 (l:= [.d (dI 0), .d (dI 0), .d (dI 0), .d (dI 0), .d (dI 0), .d (dI 0), .d (dI 0), .d (dI 0), .d (dI 0), .d (dI 0), .d (dI 0), .d (dI 0), .d (dB false), .d (dI 0), .d (dI 0), .d (dI 0), .d (dI 0), .d (dI 0), .d (dI 0), .d (.v (.string ⟨#[]⟩)), .d (.v (.slice none 0 0)), .d (.v (.slice none 0 0))]) R Bz (by kernel_rfl))<|?_
 refine XL.step R (Af (l':= [.d (dI kF.h.site), .d (dI kF.h.num), .d (dI kF.h.m.count), .d (dI kF.h.m.unit), .d (dI kF.h.m.g0), .d (dI kF.h.m.g1), .d (dI kF.h.m.g2), .d (dI kF.h.m.g3), .d (dI kF.h.m.g4), .d (dI kF.h.m.g5), .d (dI kF.h.len), .d (dI kF.h.fifths), .d (dB kF.h.start), .d (dI kF.h.fin), .d (dI kF.h.ends), .d (dI kF.h.jump), .d (dI kF.h.labels), .d (dI kF.h.swing), .d (dI kF.h.brk), .d (.v (.string ⟨kF.h.reh.toArray⟩)), .d (.sl 3 (kF.tempi.map Tm.c)), .d (.sl 2 (kF.cells.map Ce.c))]) R R R R Cc R lb (by kernel_rfl))<|?_
 refine za R R<|znr<|XL.call1 R R (Mm) R<|XL.call1 R R (Aqh) R<|zm R R<|zp (Ax R R R)<|zp (Ax R R R)<|za R R<|za R R<|znr<|zm R R<|zp (D4 (Bf R R R) (R))<|zm R R<|zm R R<|?_
 refine XL.len R R R Tryz.underlying42 fun hl34=>zp (D4 (Bf R R R) (by decide))<|zq R R R<|zm R R<|zm R R<|zp (At (k:=1) R R R Aor ((R:kSl[1]? =some ⟨0,0,1,967680,1451520⟩)))<|zp (Ae (s':= .d (.agg (Slt.c (⟨0,0,1,967680,1451520⟩)))) (A6 R R Ak8 lb) (by kernel_rfl))<|?_
 refine zp (Ae (s':= .d (.agg [dI 0,dI 0,dI 1,dI 967680,dI 1451520])) (Ac (Ay R Ym Mq R)) (by kernel_rfl))<|zp (Ae (s':= .d (dB true)) (Ama R R R) (by kernel_rfl))<|zq R R R<|zm R R<|zm R R<|zp (D4 (Bf R R R) (R))<|zq R R R<|zm R R<|zm R R<|XL.len R R R Tryz.underlying45 fun hl50=>zp (D4 (Bf R R R) (by decide))<|zq R R R<|zm R R<|zm R R<|?_
 refine zp (At (k:=1) R R R Dy ((R:([0,967680]:List Int)[1]? =some 967680)))<|zp (Bj R R Ai)<|zp (D4 (Bf R R R) (R))<|zq R R R<|zm R R<|zm R R<|zp (D4 (Bf R R R) (R))<|zq R R R<|zm R R<|zp (Aa R R B1)<|zp (Ab R R Eb R R)<|XL.len R R R Tryz.underlying28 fun hl66=>zp (D4 (Bf R R R) (by decide))<|zq R R R<|?_
 refine zm R R<|zp (Aa R R B1)<|zp (Ab R R Eb R R)<|zp (At (k:=0) R R R E8 ((R:kF.cells[0]? =some (C2 (plS kMe 0) (plS Kt 0) kCe))))<|zp (G1 R R Cs)<|zp (Bj R R Gi)<|XL.len R R R Tryz.underlying76 fun hl75=>zp (D4 (Bf R R R) (by rw [Aj0];rfl))<|zq R R R<|zm R R<|zp (Aa R R B1)<|zp (Ab R R Eb R R)<|?_
 refine zp (At (k:=0) R R R E8 ((R:kF.cells[0]? =some (C2 (plS kMe 0) (plS Kt 0) kCe))))<|zp (G1 R R Cs)<|zp (Bj R R Gi)<|zp (At (k:=1) R R R F1 (hy))<|zp (G1 R R Bk)<|zp (Bj R R Cv)<|XL.len R R R Tryz.underlying79 fun hl87=>zp (D4 (Bf R R R) (by rw [hyl];rfl))<|zq R R R<|zm R R<|zm R R<|zp (D4 (Bf R R R) (R))<|?_
 exact zq R R R<|zm R R<|zm R R<|zp (D4 (Bf R R R) (R))<|zq R R R<|za R R<|zn<|zt<|z1 R R (R)
end Go.Proofs.YtaafemnkamfgnaaGreat
namespace Go.Proofs.YtaafemnkamfgnaaGreat
open Go.RowKit
def cfE (c:Int):Int:=if c<1∨9<c then 11 else 0
end Go.Proofs.YtaafemnkamfgnaaGreat
namespace Go.Proofs.YtaafemnkamfgnaaGreat
open Go.RowKit
def clF (l:List Cf) (b t:Int):Int:=l.foldl (fun b c=>if c.tk≤t then c.clef else b) b
def Ms.cell (m:Ms) (s:Int):Ce:=(m.cells[s.toNat]?).getD ⟨[], []⟩
def clA (m:Ms) (s b t:Int):Int × Int:=if s<0∨(m.cells.length:Int)≤s then (0,2) else if cfE b≠0 then (0,cfE b) else (clF (m.cell s).clefs b t,0)
end Go.Proofs.YtaafemnkamfgnaaGreat
namespace Go.Proofs.YtaafemnkamfgnaaGreat
open Go.RowKit
def fsE (f:Nat→Int):Nat→Int
 |0=>0
 |n+1=>if fsE f n≠0 then fsE f n else f n
def Avj (L:Int) (l:List Cf) (i:Nat):Int:=
 match l[i]? with
 |none=>0
 |some x=>if cfE x.clef≠0 then cfE x.clef else if x.tk<0∨L≤x.tk then 2 else
  match l[i - 1]? with
  |none=>0
  |some y=>if 0<i∧x.tk≤y.tk then 25 else 0
def Atj (L:Int) (l:List Cf):Int:=fsE (Avj L l) l.length
def vAt (L:Int) (l:List Vo) (i:Nat):Int:=match l[i]? with|none=>0|some v=>vE L v
def ceE (L:Int) (c:Ce):Int:=if Atj L c.clefs≠0 then Atj L c.clefs else if 2<(c.voices.length:Int) then 9 else
 match c.voices[0]? with
 |none=>10
 |some v=>if v.evs.length=0 then 10 else fsE (vAt L c.voices) c.voices.length
def Avl (L:Int) (l:List Ce) (i:Nat):Int:=match l[i]? with|none=>0|some c=>ceE L c
def chE (m:Ms) (n:Int):Int:=if mlE m.h.m m.h.len≠0 then mlE m.h.m m.h.len else if m.h.fifths< -7∨7<m.h.fifths then 2 else if (m.cells.length:Int)≠n then 20 else fsE (Avl (mlV m.h.m m.h.len) m.cells) m.cells.length
end Go.Proofs.YtaafemnkamfgnaaGreat
namespace Go.Proofs.YtaafemnkamfgnaaGreat
open Go.RowKit
def Slt.z:Slt:=⟨0,0,0,0,0⟩
def Ce.voice (c:Ce) (v:Int):Vo:=(c.voices[v.toNat]?).getD ⟨[], []⟩
def atM (m:Ms) (s v t:Int):Slt × Int:=if mlE m.h.m m.h.len≠0 then (Slt.z,mlE m.h.m m.h.len)
 else if (s<0∨(m.cells.length:Int)≤s)∨(v<0∨((m.cell s).voices.length:Int)≤v)∨((m.cell s).voice v).evs.length=0 then (Slt.z,2)
 else if atE ((m.cell s).voice v) (mlV m.h.m m.h.len) t≠0 then (Slt.z,atE ((m.cell s).voice v) (mlV m.h.m m.h.len) t)
 else (⟨s,v,(atV ((m.cell s).voice v) (mlV m.h.m m.h.len) t).1,(atV ((m.cell s).voice v) (mlV m.h.m m.h.len) t).2,(atV ((m.cell s).voice v) (mlV m.h.m m.h.len) t).2+((ckL ((m.cell s).voice v) (mlV m.h.m m.h.len))[(atV ((m.cell s).voice v) (mlV m.h.m m.h.len) t).1.toNat]?).getD 0⟩,0)
end Go.Proofs.YtaafemnkamfgnaaGreat
namespace Go.Proofs.YtaafemnkamfgnaaGreat
open Go.RowKit
def Ms.ev (m:Ms) (s:Slt):Ev:=((((m.cell s.staff).voice s.voice).evs)[s.ev.toNat]?).getD restE
def idp (m:Ms) (a b:Int) (s:Slt):Bool:=decide ((m.ev s).site=a∧(m.ev s).num=b)
def fdM (m:Ms) (a b:Int):Slt × Bool:=if slE m≠0∨(a=0∧b=0) then (Slt.z,false) else
 match (slL m).find? (idp m a b) with
 |some s=>(s,true)
 |none=>(Slt.z,false)
def Ms.slot (m:Ms) (s:Slt):Prop:=s∈slL m
end Go.Proofs.YtaafemnkamfgnaaGreat
namespace Go.Proofs.YtaafemnkamfgnaaGreat
open Go.RowKit
set_option maxRecDepth 4000
set_option maxHeartbeats 4000000 in
theorem Aq1 (d:Nat) (w:World) (a0:Int) (a1:Int) (a2:Int) (a3:Int) (a4:Int) (a5:Int) (a6:Int) (a7:Int) (b0:Int) (b1:Int) (b2:Int) (b3:Int) (b4:Int) (b5:Int) (b6:Int) (b7:Int):(Op.equalIn (d+3) 26 (.agg #[.int .i64 a0, .int .i64 a1, .int .i64 a2, .int .i64 a3, .int .i64 a4, .int .i64 a5, .int .i64 a6, .int .i64 a7]) (.agg #[.int .i64 b0, .int .i64 b1, .int .i64 b2, .int .i64 b3, .int .i64 b4, .int .i64 b5, .int .i64 b6, .int .i64 b7])).run Tryz.prog w= .ok (decide (a0=b0∧a1=b1∧(a2=b2∧a3=b3∧a4=b4∧a5=b5∧a6=b6∧a7=b7))) w:=by
 rw [show d+3=(d+2)+1 from rfl,run_equalIn_struct w (d+2) 26 _ _ (by kernel_rfl) (by kernel_rfl),Em Tryz.underlying26]
 exact Cj (by decide) (Bi Ai w rfl) (Bi Ai w rfl) (Cp (d+1) 3 Tryz.underlying3 _ _) (Cj (by decide) (Bi Ai w rfl) (Bi Ai w rfl) (Cp (d+1) 3 Tryz.underlying3 _ _) (Gm (by decide) (Lg Rm w rfl) (Lg Rm w rfl) (V1 (d) w _ _ _ _ _ _ _ _ _ _ _ _)))
set_option maxHeartbeats 4000000 in
theorem Anw (d:Nat) (w:World) (a0:Int) (a1:Int) (a2:Int) (a3:Int) (a4:Int) (a5:Int) (a6:Int) (a7:Int) (a8:Int) (a9:Int) (a10:Int) (a11:Int) (a12:Bool) (a13:Int) (a14:Int) (a15:Int) (a16:Int) (a17:Int) (a18:Int) (a19:ByteArray) (b0:Int) (b1:Int) (b2:Int) (b3:Int) (b4:Int) (b5:Int) (b6:Int) (b7:Int) (b8:Int) (b9:Int) (b10:Int) (b11:Int) (b12:Bool) (b13:Int) (b14:Int) (b15:Int) (b16:Int) (b17:Int) (b18:Int) (b19:ByteArray):(Op.equalIn (d+4) 127 (.agg #[.int .i64 a0, .int .i64 a1, .int .i64 a2, .int .i64 a3, .int .i64 a4, .int .i64 a5, .int .i64 a6, .int .i64 a7, .int .i64 a8, .int .i64 a9, .int .i64 a10, .int .i64 a11, .bool a12, .int .i64 a13, .int .i64 a14, .int .i64 a15, .int .i64 a16, .int .i64 a17, .int .i64 a18, .string a19]) (.agg #[.int .i64 b0, .int .i64 b1, .int .i64 b2, .int .i64 b3, .int .i64 b4, .int .i64 b5, .int .i64 b6, .int .i64 b7, .int .i64 b8, .int .i64 b9, .int .i64 b10, .int .i64 b11, .bool b12, .int .i64 b13, .int .i64 b14, .int .i64 b15, .int .i64 b16, .int .i64 b17, .int .i64 b18, .string b19])).run Tryz.prog w= .ok (decide ((a0=b0∧a1=b1)∧(a2=b2∧a3=b3∧(a4=b4∧a5=b5∧a6=b6∧a7=b7∧a8=b8∧a9=b9))∧a10=b10∧a11=b11∧a12=b12∧a13=b13∧a14=b14∧a15=b15∧a16=b16∧a17=b17∧a18=b18∧a19.toList=b19.toList)) w:=by
 rw [show d+4=(d+3)+1 from rfl,run_equalIn_struct w (d+3) 127 _ _ (by kernel_rfl) (by kernel_rfl),Em Tryz.underlying127]
 exact Cj (by decide) (Lg Nu w rfl) (Lg Nu w rfl) (Afw (d+1) w _ _ _ _) (Cj (by decide) (Lg Br w rfl) (Lg Br w rfl) (Aq1 (d) w _ _ _ _ _ _ _ _ _ _ _ _ _ _ _ _) (Cj (by decide) (Bi Ai w rfl) (Bi Ai w rfl) (Cp (d+2) 3 Tryz.underlying3 _ _) (Cj (by decide) (Bi Ai w rfl) (Bi Ai w rfl) (Cp (d+2) 3 Tryz.underlying3 _ _) (Cj (by decide) (Bi Pd w rfl) (Bi Pd w rfl) (Pv (d+2) 4 Tryz.underlying4 _ _) (Cj (by decide) (Bi Ai w rfl) (Bi Ai w rfl) (Cp (d+2) 3 Tryz.underlying3 _ _) (Cj (by decide) (Bi Ai w rfl) (Bi Ai w rfl) (Cp (d+2) 3 Tryz.underlying3 _ _) (Cj (by decide) (Bi Ai w rfl) (Bi Ai w rfl) (Cp (d+2) 3 Tryz.underlying3 _ _) (Cj (by decide) (Bi Ai w rfl) (Bi Ai w rfl) (Cp (d+2) 3 Tryz.underlying3 _ _) (Cj (by decide) (Bi Ai w rfl) (Bi Ai w rfl) (Cp (d+2) 3 Tryz.underlying3 _ _) (Cj (by decide) (Bi Ai w rfl) (Bi Ai w rfl) (Cp (d+2) 3 Tryz.underlying3 _ _) (Gm (by decide) (Bi Jf w rfl) (Bi Jf w rfl) (Afx (d+2) 9 Tryz.underlying9 _ _))))))))))))
set_option maxHeartbeats 4000000 in
theorem Qq {t':TypeId} {o:Oper} {e:Operand→S} {h:Xh} {x y:Operand} {a0:Int} {a1:Int} {a2:Int} {a3:Int} {a4:Int} {a5:Int} {a6:Int} {a7:Int} {a8:Int} {a9:Int} {a10:Int} {a11:Int} {a12:Bool} {a13:Int} {a14:Int} {a15:Int} {a16:Int} {a17:Int} {a18:Int} {a19:ByteArray} {b0:Int} {b1:Int} {b2:Int} {b3:Int} {b4:Int} {b5:Int} {b6:Int} {b7:Int} {b8:Int} {b9:Int} {b10:Int} {b11:Int} {b12:Bool} {b13:Int} {b14:Int} {b15:Int} {b16:Int} {b17:Int} {b18:Int} {b19:ByteArray} (ho:o.op= .binOp .eql 127 x y t') (hx:e x= .d (.agg [.v (.int .i64 a0), .v (.int .i64 a1), .v (.int .i64 a2), .v (.int .i64 a3), .v (.int .i64 a4), .v (.int .i64 a5), .v (.int .i64 a6), .v (.int .i64 a7), .v (.int .i64 a8), .v (.int .i64 a9), .v (.int .i64 a10), .v (.int .i64 a11), .v (.bool a12), .v (.int .i64 a13), .v (.int .i64 a14), .v (.int .i64 a15), .v (.int .i64 a16), .v (.int .i64 a17), .v (.int .i64 a18), .v (.string a19)])) (hy:e y= .d (.agg [.v (.int .i64 b0), .v (.int .i64 b1), .v (.int .i64 b2), .v (.int .i64 b3), .v (.int .i64 b4), .v (.int .i64 b5), .v (.int .i64 b6), .v (.int .i64 b7), .v (.int .i64 b8), .v (.int .i64 b9), .v (.int .i64 b10), .v (.int .i64 b11), .v (.bool b12), .v (.int .i64 b13), .v (.int .i64 b14), .v (.int .i64 b15), .v (.int .i64 b16), .v (.int .i64 b17), .v (.int .i64 b18), .v (.string b19)])):Bh Tryz.prog o e h (.d (.v (.bool (decide ((a0=b0∧a1=b1)∧(a2=b2∧a3=b3∧(a4=b4∧a5=b5∧a6=b6∧a7=b7∧a8=b8∧a9=b9))∧a10=b10∧a11=b11∧a12=b12∧a13=b13∧a14=b14∧a15=b15∧a16=b16∧a17=b17∧a18=b18∧a19.toList=b19.toList))))):=by
 refine Fm ho hx hy rfl rfl (by kernel_rfl) fun w=> ?_
 refine (run_eql_struct w 127 #[.int .i64 a0, .int .i64 a1, .int .i64 a2, .int .i64 a3, .int .i64 a4, .int .i64 a5, .int .i64 a6, .int .i64 a7, .int .i64 a8, .int .i64 a9, .int .i64 a10, .int .i64 a11, .bool a12, .int .i64 a13, .int .i64 a14, .int .i64 a15, .int .i64 a16, .int .i64 a17, .int .i64 a18, .string a19] #[.int .i64 b0, .int .i64 b1, .int .i64 b2, .int .i64 b3, .int .i64 b4, .int .i64 b5, .int .i64 b6, .int .i64 b7, .int .i64 b8, .int .i64 b9, .int .i64 b10, .int .i64 b11, .bool b12, .int .i64 b13, .int .i64 b14, .int .i64 b15, .int .i64 b16, .int .i64 b17, .int .i64 b18, .string b19]).trans ?_
 have hq:=Anw 9996 w a0 a1 a2 a3 a4 a5 a6 a7 a8 a9 a10 a11 a12 a13 a14 a15 a16 a17 a18 a19 b0 b1 b2 b3 b4 b5 b6 b7 b8 b9 b10 b11 b12 b13 b14 b15 b16 b17 b18 b19
 simp only [Nat.reduceAdd] at hq
 rw [hq]
 simp only [Result.andThen_ok]
end Go.Proofs.YtaafemnkamfgnaaGreat
namespace Go.Proofs.YtaafemnkamfgnaaGreat
open Go.RowKit
theorem dno {p:Prop} [Decidable p] (h:¬p):false=decide p:=(decide_eq_false h).symm
theorem Anz {p:Prop} [Decidable p] (h:p):true=decide p:=(decide_eq_true h).symm
theorem Ev.eqv_iff {a b:Ev}:a.eqv b↔a=b:=by
 constructor
 ·rintro ⟨⟨h1,h2⟩,h3,h4,h5,h6,h7,h8,h9,h10,h11,h12⟩
  obtain ⟨a1,a2,a3,a4,a5,a6,a7,a8,a9,a10,a11,a12⟩:=a
  obtain ⟨b1,b2,b3,b4,b5,b6,b7,b8,b9,b10,b11,b12⟩:=b
  simp only at h1 h2 h3 h4 h5 h6 h7 h8 h9 h10 h11 h12
  subst h1 h2 h3 h4 h5 h6 h7 h8 h9 h10 h11 h12;rfl
 ·rintro rfl
  exact ⟨⟨rfl,rfl⟩,rfl,rfl,rfl,rfl,rfl,rfl,rfl,rfl,rfl,rfl⟩
instance:DecidableEq Ev:=fun a b=>decidable_of_iff _ Ev.eqv_iff
instance:DecidableEq Vo:=fun a b=>decidable_of_iff (a.evs=b.evs∧a.tups=b.tups) ⟨fun h=>by obtain ⟨x,y⟩:=a;obtain ⟨z,t⟩:=b;obtain ⟨rfl,rfl⟩:=h;rfl,fun h=>by rw [h];exact ⟨rfl,rfl⟩⟩
instance:DecidableEq Ce:=fun a b=>decidable_of_iff (a.clefs=b.clefs∧a.voices=b.voices) ⟨fun h=>by obtain ⟨x,y⟩:=a;obtain ⟨z,t⟩:=b;obtain ⟨rfl,rfl⟩:=h;rfl,fun h=>by rw [h];exact ⟨rfl,rfl⟩⟩
instance:DecidableEq Ms:=fun a b=>decidable_of_iff (a.h=b.h∧a.tempi=b.tempi∧a.cells=b.cells) ⟨fun h=>by obtain ⟨x,y,z⟩:=a;obtain ⟨x',y',z'⟩:=b;obtain ⟨rfl,rfl,rfl⟩:=h;rfl,fun h=>by rw [h];exact ⟨rfl,rfl,rfl⟩⟩
theorem Cf.eq_of {x y:Cf} (h:¬ ¬(x.tk=y.tk∧x.clef=y.clef)):x=y:=by
 obtain ⟨a,b⟩:=x;obtain ⟨a',b'⟩:=y;simp only [Decidable.not_not] at h;obtain ⟨rfl,rfl⟩:=h;rfl
theorem Cf.ne_of {x y:Cf} (h:¬(x.tk=y.tk∧x.clef=y.clef)):x≠y:=by rintro rfl;exact h ⟨rfl,rfl⟩
theorem Tm.eq_of {x y:Tm} (h:¬ ¬(x.tk=y.tk∧x.micros=y.micros∧x.ramp=y.ramp)):x=y:=by
 obtain ⟨a,b,c⟩:=x;obtain ⟨a',b',c'⟩:=y;simp only [Decidable.not_not] at h;obtain ⟨rfl,rfl,rfl⟩:=h;rfl
theorem Tm.ne_of {x y:Tm} (h:¬(x.tk=y.tk∧x.micros=y.micros∧x.ramp=y.ramp)):x≠y:=by rintro rfl;exact h ⟨rfl,rfl,rfl⟩
theorem Tp.eq_of {x y:Tp} (h:¬ ¬(x.first=y.first∧x.count=y.count∧x.actual=y.actual∧x.normal=y.normal)):x=y:=by
 obtain ⟨a,b,c,d⟩:=x;obtain ⟨a',b',c',d'⟩:=y;simp only [Decidable.not_not] at h;obtain ⟨rfl,rfl,rfl,rfl⟩:=h;rfl
theorem Tp.ne_of {x y:Tp} (h:¬(x.first=y.first∧x.count=y.count∧x.actual=y.actual∧x.normal=y.normal)):x≠y:=by rintro rfl;exact h ⟨rfl,rfl,rfl,rfl⟩
theorem Ans (a b:List Cf):XC Tryz.prog 79 [.sl 2 (a.map Cf.c), .sl 2 (b.map Cf.c)] (fun r=>r=dB (decide (a=b))):=by
 refine Al Adv Tryz.func79 R R lb<|zr<|za R R<|zn<|zs<|zr<|zm R R<|XL.len R R R Tryz.underlying75 fun hl7=>zm R R<|XL.len R R R Tryz.underlying75 fun hl9=>zp (A5 R R R)<|zn<|?_
 refine zd R (fun c10=> ?_) (fun c10=> ?_)
 exact zr<|za R R<|zn<|zt<|z1 R R (rB (Gk (fun h=>c10 (by rw [h]))))
 refine zi<|zs<|zr<|zm R R<|XL.len R R R Tryz.underlying75 fun hl12=>zm R R<|zn<|Ah<|?_
 refine A0 (α:=Nat) (fun k=>k≤a.length∧∀j x y,j<k→a[j]? =some x→b[j]? =some y→x=y) (fun k=>mkF [(0, .d (.sl 2 (a.map Cf.c))),(1, .d (.sl 2 (b.map Cf.c))),(12, .d (dI a.length)),(13, .d (dI k))]) (fun k=>mkH []) (fun k=>a.length - k) (0) (⟨Nat.zero_le _,fun j x y h=>absurd h (Nat.not_lt_zero _)⟩) ?_ ?_ ?_
 exact fz ⟨sr,sr,sr,sr,trivial⟩
 exact HSub.nil
 intro k hk0
 obtain ⟨hk,hf⟩:=hk0
 refine zr<|zp (Au R R R)<|zn<|zs<|?_
 refine zd R (fun c14=> ?_) (fun c14=> ?_)
 have hk0a:k<a.length:=by omega
 obtain ⟨x,hx0⟩:=Av hk0a
 obtain ⟨y,hy⟩:∃y,b[k]? =some y:=Av (by omega)
 refine zi<|zs<|Ah<|zr<|zm R R<|za R R<|zn<|zs<|Cb [] (by kernel_rfl) (by kernel_rfl) (by kernel_rfl) (by decide)<|ym R R<|ym R R<|yp (At R R R Od hx0)<|yp (Ae (s':= .d (.agg (Cf.c x))) (A6 R R O4 lb) (by kernel_rfl))<|ym R R<|?_
 refine ym R R<|yp (At R R R Od (hy))<|yp (Ae (s':= .d (.agg (Cf.c y))) (A6 R R O4 lb) (by kernel_rfl))<|yp (Al5 R R R)<|?_
 refine ChK.nil ⟨by kernel_rfl, ?_⟩
 refine zd R (fun c24=> ?_) (fun c24=> ?_)
 exact zr<|za R R<|zn<|zt<|z1 R R (rB (Gk (fun h=>Cf.ne_of c24 (by rw [h] at hx0;rw [hx0] at hy;cases hy;rfl))))
 refine zi<|Ag (by kernel_rfl)<|zp (An R R R (by omega) (by omega))<|zm R R<|zn<|?_
 exact Am (k+1) (⟨by omega,fun j x' y' hj hx' hy'=>by by_cases e:j=k;(· subst e;rw [hx0] at hx';rw [hy] at hy';cases hx';cases hy';exact Cf.eq_of c24);(· exact hf j x' y' (by omega) hx' hy')⟩) (by omega) (fz ⟨sr,sr,sr,sr,trivial⟩) (HSub.nil)
 have hk0b:k=a.length:=by omega
 exact As<|zr<|za R R<|zn<|zt<|z1 R R (rB (eq_yes (Gw (by omega) (fun j x y hj=>hf j x y (by omega)))))
theorem Aaa (a b:List Tm):XC Tryz.prog 73 [.sl 3 (a.map Tm.c), .sl 3 (b.map Tm.c)] (fun r=>r=dB (decide (a=b))):=by
 refine Al Adz Tryz.func73 R R lb<|zr<|za R R<|zn<|zs<|zr<|zm R R<|XL.len R R R Tryz.underlying27 fun hl7=>zm R R<|XL.len R R R Tryz.underlying27 fun hl9=>zp (A5 R R R)<|zn<|?_
 refine zd R (fun c10=> ?_) (fun c10=> ?_)
 exact zr<|za R R<|zn<|zt<|z1 R R (rB (Gk (fun h=>c10 (by rw [h]))))
 refine zi<|zs<|zr<|zm R R<|XL.len R R R Tryz.underlying27 fun hl12=>zm R R<|zn<|Ah<|?_
 refine A0 (α:=Nat) (fun k=>k≤a.length∧∀j x y,j<k→a[j]? =some x→b[j]? =some y→x=y) (fun k=>mkF [(0, .d (.sl 3 (a.map Tm.c))),(1, .d (.sl 3 (b.map Tm.c))),(12, .d (dI a.length)),(13, .d (dI k))]) (fun k=>mkH []) (fun k=>a.length - k) (0) (⟨Nat.zero_le _,fun j x y h=>absurd h (Nat.not_lt_zero _)⟩) ?_ ?_ ?_
 exact fz ⟨sr,sr,sr,sr,trivial⟩
 exact HSub.nil
 intro k hk0
 obtain ⟨hk,hf⟩:=hk0
 refine zr<|zp (Au R R R)<|zn<|zs<|?_
 refine zd R (fun c14=> ?_) (fun c14=> ?_)
 have hk0a:k<a.length:=by omega
 obtain ⟨x,hx0⟩:=Av hk0a
 obtain ⟨y,hy⟩:∃y,b[k]? =some y:=Av (by omega)
 refine zi<|zs<|Ah<|zr<|zm R R<|za R R<|zn<|zs<|Cb [] (by kernel_rfl) (by kernel_rfl) (by kernel_rfl) (by decide)<|ym R R<|ym R R<|yp (At R R R Mn hx0)<|yp (Ae (s':= .d (.agg (Tm.c x))) (A6 R R My lb) (by kernel_rfl))<|ym R R<|?_
 refine ym R R<|yp (At R R R Mn (hy))<|yp (Ae (s':= .d (.agg (Tm.c y))) (A6 R R My lb) (by kernel_rfl))<|yp (Aja R R R)<|?_
 refine ChK.nil ⟨by kernel_rfl, ?_⟩
 refine zd R (fun c24=> ?_) (fun c24=> ?_)
 exact zr<|za R R<|zn<|zt<|z1 R R (rB (Gk (fun h=>Tm.ne_of c24 (by rw [h] at hx0;rw [hx0] at hy;cases hy;rfl))))
 refine zi<|Ag (by kernel_rfl)<|zp (An R R R (by omega) (by omega))<|zm R R<|zn<|?_
 exact Am (k+1) (⟨by omega,fun j x' y' hj hx' hy'=>by by_cases e:j=k;(· subst e;rw [hx0] at hx';rw [hy] at hy';cases hx';cases hy';exact Tm.eq_of c24);(· exact hf j x' y' (by omega) hx' hy')⟩) (by omega) (fz ⟨sr,sr,sr,sr,trivial⟩) (HSub.nil)
 have hk0b:k=a.length:=by omega
 exact As<|zr<|za R R<|zn<|zt<|z1 R R (rB (eq_yes (Gw (by omega) (fun j x y hj=>hf j x y (by omega)))))
theorem Ano (a b:List Tp):XC Tryz.prog 139 [.sl 4 (a.map Tp.c), .sl 4 (b.map Tp.c)] (fun r=>r=dB (decide (a=b))):=by
 refine Al Ab8 Tryz.func139 R R lb<|zr<|za R R<|zn<|zs<|zr<|zm R R<|XL.len R R R Tryz.underlying80 fun hl7=>zm R R<|XL.len R R R Tryz.underlying80 fun hl9=>zp (A5 R R R)<|zn<|?_
 refine zd R (fun c10=> ?_) (fun c10=> ?_)
 exact zr<|za R R<|zn<|zt<|z1 R R (rB (Gk (fun h=>c10 (by rw [h]))))
 refine zi<|zs<|zr<|zm R R<|XL.len R R R Tryz.underlying80 fun hl12=>zm R R<|zn<|Ah<|?_
 refine A0 (α:=Nat) (fun k=>k≤a.length∧∀j x y,j<k→a[j]? =some x→b[j]? =some y→x=y) (fun k=>mkF [(0, .d (.sl 4 (a.map Tp.c))),(1, .d (.sl 4 (b.map Tp.c))),(12, .d (dI a.length)),(13, .d (dI k))]) (fun k=>mkH []) (fun k=>a.length - k) (0) (⟨Nat.zero_le _,fun j x y h=>absurd h (Nat.not_lt_zero _)⟩) ?_ ?_ ?_
 exact fz ⟨sr,sr,sr,sr,trivial⟩
 exact HSub.nil
 intro k hk0
 obtain ⟨hk,hf⟩:=hk0
 refine zr<|zp (Au R R R)<|zn<|zs<|?_
 refine zd R (fun c14=> ?_) (fun c14=> ?_)
 have hk0a:k<a.length:=by omega
 obtain ⟨x,hx0⟩:=Av hk0a
 obtain ⟨y,hy⟩:∃y,b[k]? =some y:=Av (by omega)
 refine zi<|zs<|Ah<|zr<|zm R R<|za R R<|zn<|zs<|Cb [] (by kernel_rfl) (by kernel_rfl) (by kernel_rfl) (by decide)<|ym R R<|ym R R<|yp (At R R R Ex hx0)<|yp (Ae (s':= .d (.agg (Tp.c x))) (A6 R R Cg lb) (by kernel_rfl))<|ym R R<|?_
 refine ym R R<|yp (At R R R Ex (hy))<|yp (Ae (s':= .d (.agg (Tp.c y))) (A6 R R Cg lb) (by kernel_rfl))<|yp (Ai9 R R R)<|?_
 refine ChK.nil ⟨by kernel_rfl, ?_⟩
 refine zd R (fun c24=> ?_) (fun c24=> ?_)
 exact zr<|za R R<|zn<|zt<|z1 R R (rB (Gk (fun h=>Tp.ne_of c24 (by rw [h] at hx0;rw [hx0] at hy;cases hy;rfl))))
 refine zi<|Ag (by kernel_rfl)<|zp (An R R R (by omega) (by omega))<|zm R R<|zn<|?_
 exact Am (k+1) (⟨by omega,fun j x' y' hj hx' hy'=>by by_cases e:j=k;(· subst e;rw [hx0] at hx';rw [hy] at hy';cases hx';cases hy';exact Tp.eq_of c24);(· exact hf j x' y' (by omega) hx' hy')⟩) (by omega) (fz ⟨sr,sr,sr,sr,trivial⟩) (HSub.nil)
 have hk0b:k=a.length:=by omega
 exact As<|zr<|za R R<|zn<|zt<|z1 R R (rB (eq_yes (Gw (by omega) (fun j x y hj=>hf j x y (by omega)))))
theorem Akn (a b:List Ev) (F:Nat) (hF:∀x∈a,∀y∈b,XC Tryz.prog F [.agg (Ev.c x), .agg (Ev.c y)] (fun r=>r=dB (decide (x=y)))):XC Tryz.prog 108 [.sl 13 (a.map Ev.c), .sl 13 (b.map Ev.c), .fn F [] []] (fun r=>r=dB (decide (a=b))):=by
 refine Al Acm Tryz.func108 R R lb<|zr<|za R R<|zn<|zs<|zr<|zm R R<|XL.len R R R Tryz.underlying79 fun hl11=>zm R R<|XL.len R R R Tryz.underlying79 fun hl13=>zp (A5 R R R)<|zn<|?_
 refine zd R (fun c14=> ?_) (fun c14=> ?_)
 exact zr<|za R R<|zn<|zt<|z1 R R (rB (Gk (fun h=>c14 (by rw [h]))))
 refine zi<|zs<|zr<|zm R R<|XL.len R R R Tryz.underlying79 fun hl16=>zm R R<|zn<|Ah<|?_
 refine A0 (α:=Nat) (fun k=>k≤a.length∧∀j x y,j<k→a[j]? =some x→b[j]? =some y→x=y) (fun k=>mkF [(1, .d (.sl 13 (b.map Ev.c))),(2, .d (.fn F [] [])),(15, .d (.sl 13 (a.map Ev.c))),(16, .d (dI a.length)),(17, .d (dI k))]) (fun k=>mkH []) (fun k=>a.length - k) (0) (⟨Nat.zero_le _,fun j x y h=>absurd h (Nat.not_lt_zero _)⟩) ?_ ?_ ?_
 exact fz ⟨sr,sr,sr,sr,sr,trivial⟩
 exact HSub.nil
 intro k hk0
 obtain ⟨hk,hf⟩:=hk0
 refine zr<|zp (Au R R R)<|zn<|zs<|?_
 refine zd R (fun c18=> ?_) (fun c18=> ?_)
 have hk0a:k<a.length:=by omega
 obtain ⟨x,hx0⟩:=Av hk0a
 obtain ⟨y,hy⟩:∃y,b[k]? =some y:=Av (by omega)
 refine zi<|zs<|Ah<|zr<|zm R R<|zp (At R R R Gx hx0)<|zp (Ae (s':= .d (.agg (Ev.c x))) (A6 R R Bu lb) (by kernel_rfl))<|XL.step R (Ap 8 (l:= [.d (dI 0), .d (dI 0), .d (dI 0), .d (dI 0), .d (dI 0), .d (.v (.slice none 0 0)), .d (.v (.slice none 0 0)), .d (dI 0), .d (dI 0), .d (dI 0), .d (.v (.slice none 0 0)), .d (dI 0), .d (dI 0)]) R Ck (by kernel_rfl))<|?_
 refine za R R<|XL.step R (Af (l':= [.d (dI x.site), .d (dI x.num), .d (dI x.kind), .d (dI x.v.log), .d (dI x.v.dots), .d (.sl 5 (x.heads.map Hd.c)), .d (.sl 5 (x.graces.map Gr.c)), .d (dI x.art), .d (dI x.orn), .d (dI x.dyn), .d (.sl 2 (x.lyr.map Sy.c)), .d (dI x.stem), .d (dI x.beam)]) R R R R C7 R lb (by kernel_rfl))<|znr<|zm R R<|zm R R<|zp (At R R R Gx (hy))<|?_
 refine zp (Ae (s':= .d (.agg (Ev.c y))) (A6 R R Bu lb) (by kernel_rfl))<|XL.step R (Ap 9 (l:= [.d (dI 0), .d (dI 0), .d (dI 0), .d (dI 0), .d (dI 0), .d (.v (.slice none 0 0)), .d (.v (.slice none 0 0)), .d (dI 0), .d (dI 0), .d (dI 0), .d (.v (.slice none 0 0)), .d (dI 0), .d (dI 0)]) R Ck (by kernel_rfl))<|?_
 refine XL.step R (Af (l':= [.d (dI y.site), .d (dI y.num), .d (dI y.kind), .d (dI y.v.log), .d (dI y.v.dots), .d (.sl 5 (y.heads.map Hd.c)), .d (.sl 5 (y.graces.map Gr.c)), .d (dI y.art), .d (dI y.orn), .d (dI y.dyn), .d (.sl 2 (y.lyr.map Sy.c)), .d (dI y.stem), .d (dI y.beam)]) R R R R C7 R lb (by kernel_rfl))<|znr<|zm R R<|?_
 refine zp (Ae (s':= .d (.agg (Ev.c x))) (Ac (Ad R R Bu R lb)) (by kernel_rfl))<|zp (Ae (s':= .d (.agg (Ev.c y))) (Ac (Ad R R Bu R lb)) (by kernel_rfl))<|XL.callv1 (ds:= [_,_]) R R R (hF x (List.mem_of_getElem? hx0) y (List.mem_of_getElem? hy)) R<|zp (Eq R R)<|zn<|?_
 refine zd R (fun c30=> ?_) (fun c30=> ?_)
 exact zr<|za R R<|zn<|zt<|z1 R R (rB (Gk (fun h=>c30 (by rw [h] at hx0;rw [hx0] at hy;cases hy;rfl))))
 refine zi<|Ag (by kernel_rfl)<|zp (An R R R (by omega) (by omega))<|zm R R<|zn<|?_
 exact Am (k+1) (⟨by omega,fun j x' y' hj hx' hy'=>by by_cases e:j=k;(· subst e;rw [hx0] at hx';rw [hy] at hy';cases hx';cases hy';exact Decidable.not_not.1 c30);(· exact hf j x' y' (by omega) hx' hy')⟩) (by omega) (fz ⟨sr,sr,sr,sr,sr,trivial⟩) (HSub.nil)
 have hk0b:k=a.length:=by omega
 exact As<|zr<|za R R<|zn<|zt<|z1 R R (rB (eq_yes (Gw (by omega) (fun j x y hj=>hf j x y (by omega)))))
theorem Akm (a b:List Vo) (F:Nat) (hF:∀x∈a,∀y∈b,XC Tryz.prog F [.agg (Vo.c x), .agg (Vo.c y)] (fun r=>r=dB (decide (x=y)))):XC Tryz.prog 80 [.sl 2 (a.map Vo.c), .sl 2 (b.map Vo.c), .fn F [] []] (fun r=>r=dB (decide (a=b))):=by
 refine Al Adu Tryz.func80 R R lb<|zr<|za R R<|zn<|zs<|zr<|zm R R<|XL.len R R R Tryz.underlying76 fun hl11=>zm R R<|XL.len R R R Tryz.underlying76 fun hl13=>zp (A5 R R R)<|zn<|?_
 refine zd R (fun c14=> ?_) (fun c14=> ?_)
 exact zr<|za R R<|zn<|zt<|z1 R R (rB (Gk (fun h=>c14 (by rw [h]))))
 refine zi<|zs<|zr<|zm R R<|XL.len R R R Tryz.underlying76 fun hl16=>zm R R<|zn<|Ah<|?_
 refine A0 (α:=Nat) (fun k=>k≤a.length∧∀j x y,j<k→a[j]? =some x→b[j]? =some y→x=y) (fun k=>mkF [(1, .d (.sl 2 (b.map Vo.c))),(2, .d (.fn F [] [])),(15, .d (.sl 2 (a.map Vo.c))),(16, .d (dI a.length)),(17, .d (dI k))]) (fun k=>mkH []) (fun k=>a.length - k) (0) (⟨Nat.zero_le _,fun j x y h=>absurd h (Nat.not_lt_zero _)⟩) ?_ ?_ ?_
 exact fz ⟨sr,sr,sr,sr,sr,trivial⟩
 exact HSub.nil
 intro k hk0
 obtain ⟨hk,hf⟩:=hk0
 refine zr<|zp (Au R R R)<|zn<|zs<|?_
 refine zd R (fun c18=> ?_) (fun c18=> ?_)
 have hk0a:k<a.length:=by omega
 obtain ⟨x,hx0⟩:=Av hk0a
 obtain ⟨y,hy⟩:∃y,b[k]? =some y:=Av (by omega)
 refine zi<|zs<|Ah<|zr<|zm R R<|zp (At R R R F1 hx0)<|zp (Ae (s':= .d (.agg (Vo.c x))) (A6 R R Aq lb) (by kernel_rfl))<|XL.step R (Ap 8 (l:= [.d (.v (.slice none 0 0)), .d (.v (.slice none 0 0))]) R Ba (by kernel_rfl))<|za R R<|XL.step R (Af (l':= [.d (.sl 13 (x.evs.map Ev.c)), .d (.sl 4 (x.tups.map Tp.c))]) R R R R Bm R lb (by kernel_rfl))<|znr<|?_
 refine zm R R<|zm R R<|zp (At R R R F1 (hy))<|zp (Ae (s':= .d (.agg (Vo.c y))) (A6 R R Aq lb) (by kernel_rfl))<|XL.step R (Ap 9 (l:= [.d (.v (.slice none 0 0)), .d (.v (.slice none 0 0))]) R Ba (by kernel_rfl))<|XL.step R (Af (l':= [.d (.sl 13 (y.evs.map Ev.c)), .d (.sl 4 (y.tups.map Tp.c))]) R R R R Bm R lb (by kernel_rfl))<|znr<|zm R R<|?_
 refine zp (Ae (s':= .d (.agg (Vo.c x))) (Ac (Ad R R Aq R lb)) (by kernel_rfl))<|zp (Ae (s':= .d (.agg (Vo.c y))) (Ac (Ad R R Aq R lb)) (by kernel_rfl))<|XL.callv1 (ds:= [_,_]) R R R (hF x (List.mem_of_getElem? hx0) y (List.mem_of_getElem? hy)) R<|zp (Eq R R)<|zn<|?_
 refine zd R (fun c30=> ?_) (fun c30=> ?_)
 exact zr<|za R R<|zn<|zt<|z1 R R (rB (Gk (fun h=>c30 (by rw [h] at hx0;rw [hx0] at hy;cases hy;rfl))))
 refine zi<|Ag (by kernel_rfl)<|zp (An R R R (by omega) (by omega))<|zm R R<|zn<|?_
 exact Am (k+1) (⟨by omega,fun j x' y' hj hx' hy'=>by by_cases e:j=k;(· subst e;rw [hx0] at hx';rw [hy] at hy';cases hx';cases hy';exact Decidable.not_not.1 c30);(· exact hf j x' y' (by omega) hx' hy')⟩) (by omega) (fz ⟨sr,sr,sr,sr,sr,trivial⟩) (HSub.nil)
 have hk0b:k=a.length:=by omega
 exact As<|zr<|za R R<|zn<|zt<|z1 R R (rB (eq_yes (Gw (by omega) (fun j x y hj=>hf j x y (by omega)))))
theorem Ako (a b:List Ce) (F:Nat) (hF:∀x∈a,∀y∈b,XC Tryz.prog F [.agg (Ce.c x), .agg (Ce.c y)] (fun r=>r=dB (decide (x=y)))):XC Tryz.prog 74 [.sl 2 (a.map Ce.c), .sl 2 (b.map Ce.c), .fn F [] []] (fun r=>r=dB (decide (a=b))):=by
 refine Al Ady Tryz.func74 R R lb<|zr<|za R R<|zn<|zs<|zr<|zm R R<|XL.len R R R Tryz.underlying28 fun hl11=>zm R R<|XL.len R R R Tryz.underlying28 fun hl13=>zp (A5 R R R)<|zn<|?_
 refine zd R (fun c14=> ?_) (fun c14=> ?_)
 exact zr<|za R R<|zn<|zt<|z1 R R (rB (Gk (fun h=>c14 (by rw [h]))))
 refine zi<|zs<|zr<|zm R R<|XL.len R R R Tryz.underlying28 fun hl16=>zm R R<|zn<|Ah<|?_
 refine A0 (α:=Nat) (fun k=>k≤a.length∧∀j x y,j<k→a[j]? =some x→b[j]? =some y→x=y) (fun k=>mkF [(1, .d (.sl 2 (b.map Ce.c))),(2, .d (.fn F [] [])),(15, .d (.sl 2 (a.map Ce.c))),(16, .d (dI a.length)),(17, .d (dI k))]) (fun k=>mkH []) (fun k=>a.length - k) (0) (⟨Nat.zero_le _,fun j x y h=>absurd h (Nat.not_lt_zero _)⟩) ?_ ?_ ?_
 exact fz ⟨sr,sr,sr,sr,sr,trivial⟩
 exact HSub.nil
 intro k hk0
 obtain ⟨hk,hf⟩:=hk0
 refine zr<|zp (Au R R R)<|zn<|zs<|?_
 refine zd R (fun c18=> ?_) (fun c18=> ?_)
 have hk0a:k<a.length:=by omega
 obtain ⟨x,hx0⟩:=Av hk0a
 obtain ⟨y,hy⟩:∃y,b[k]? =some y:=Av (by omega)
 refine zi<|zs<|Ah<|zr<|zm R R<|zp (At R R R E8 hx0)<|zp (Ae (s':= .d (.agg (Ce.c x))) (A6 R R I3 lb) (by kernel_rfl))<|XL.step R (Ap 8 (l:= [.d (.v (.slice none 0 0)), .d (.v (.slice none 0 0))]) R F8 (by kernel_rfl))<|za R R<|XL.step R (Af (l':= [.d (.sl 2 (x.clefs.map Cf.c)), .d (.sl 2 (x.voices.map Vo.c))]) R R R R Ld R lb (by kernel_rfl))<|?_
 refine znr<|zm R R<|zm R R<|zp (At R R R E8 (hy))<|zp (Ae (s':= .d (.agg (Ce.c y))) (A6 R R I3 lb) (by kernel_rfl))<|XL.step R (Ap 9 (l:= [.d (.v (.slice none 0 0)), .d (.v (.slice none 0 0))]) R F8 (by kernel_rfl))<|XL.step R (Af (l':= [.d (.sl 2 (y.clefs.map Cf.c)), .d (.sl 2 (y.voices.map Vo.c))]) R R R R Ld R lb (by kernel_rfl))<|znr<|zm R R<|?_
 refine zp (Ae (s':= .d (.agg (Ce.c x))) (Ac (Ad R R I3 R lb)) (by kernel_rfl))<|zp (Ae (s':= .d (.agg (Ce.c y))) (Ac (Ad R R I3 R lb)) (by kernel_rfl))<|XL.callv1 (ds:= [_,_]) R R R (hF x (List.mem_of_getElem? hx0) y (List.mem_of_getElem? hy)) R<|zp (Eq R R)<|zn<|?_
 refine zd R (fun c30=> ?_) (fun c30=> ?_)
 exact zr<|za R R<|zn<|zt<|z1 R R (rB (Gk (fun h=>c30 (by rw [h] at hx0;rw [hx0] at hy;cases hy;rfl))))
 refine zi<|Ag (by kernel_rfl)<|zp (An R R R (by omega) (by omega))<|zm R R<|zn<|?_
 exact Am (k+1) (⟨by omega,fun j x' y' hj hx' hy'=>by by_cases e:j=k;(· subst e;rw [hx0] at hx';rw [hy] at hy';cases hx';cases hy';exact Decidable.not_not.1 c30);(· exact hf j x' y' (by omega) hx' hy')⟩) (by omega) (fz ⟨sr,sr,sr,sr,sr,trivial⟩) (HSub.nil)
 have hk0b:k=a.length:=by omega
 exact As<|zr<|za R R<|zn<|zt<|z1 R R (rB (eq_yes (Gw (by omega) (fun j x y hj=>hf j x y (by omega)))))
theorem Apb (a b:List Tp):XC Tryz.prog 110 [.sl 4 (a.map Tp.c), .sl 4 (b.map Tp.c)] (fun r=>r=dB (decide (a=b))):=by
 exact Al Ack Tryz.func110 R R lb<|zr<|za R R<|znr<|zm R R<|zm R R<|XL.call1 R R (Ano _ _) R<|za R R<|zn<|zt<|z1 R R (R)
theorem Aqx (a b:Ev):XC Tryz.prog 109 [.agg (Ev.c a), .agg (Ev.c b)] (fun r=>r=dB (decide (a=b))):=by
 have h:=Akv a b
 rw [show decide (a.eqv b)=decide (a=b) by rw [decide_eq_decide];exact Ev.eqv_iff] at h
 exact h
theorem Vo.eq_yes {a b:Vo} (h:a.evs=b.evs) (h2:a.tups=b.tups):a=b:=by obtain ⟨x,y⟩:=a;obtain ⟨z,t⟩:=b;simp only at h h2;subst h h2;rfl
theorem Ce.eq_yes {a b:Ce} (h:a.clefs=b.clefs) (h2:a.voices=b.voices):a=b:=by obtain ⟨x,y⟩:=a;obtain ⟨z,t⟩:=b;simp only at h h2;subst h h2;rfl
theorem Ms.eq_yes {a b:Ms} (h0:a.h=b.h) (h:a.tempi=b.tempi) (h2:a.cells=b.cells):a=b:=by obtain ⟨w,x,y⟩:=a;obtain ⟨w',z,t⟩:=b;simp only at h0 h h2;subst h0 h h2;rfl
theorem Ao4 (a b:Vo):XC Tryz.prog 78 [.agg (Vo.c a), .agg (Vo.c b)] (fun r=>r=dB (decide (a=b))):=by
 refine Al Adw Tryz.func78 R R lb<|zr<|XL.step R (Ao 2 (l:= [.d (.sl 13 (a.evs.map Ev.c)), .d (.sl 4 (a.tups.map Tp.c))]) R R (by kernel_rfl))<|XL.step R (Ao 3 (l:= [.d (.sl 13 (b.evs.map Ev.c)), .d (.sl 4 (b.tups.map Tp.c))]) R R (by kernel_rfl))<|za R R<|znr<|zp (Aa R R Bk)<|zp (Ab R R Cv R R)<|zp (Aa R R Bk)<|zp (Ab R R Cv R R)<|?_
 refine XL.call1 R R (Akn _ _ _ (fun x _ y _=>Aqx x y)) R<|zm R R<|?_
 refine XL.dec 10 R (fun g10=> ?_) (fun g10=> ?_)
 exact zp (Aa R R Bq)<|zp (Ab R R B0 R R)<|zp (Aa R R Bq)<|zp (Ab R R B0 R R)<|XL.call1 R R (Apb _ _) R<|zq R R R<|za R R<|zn<|zt<|z1 R R (rB (by by_cases h:a.tups=b.tups;(· rw [decide_eq_true h];exact Anz (Vo.eq_yes g10 h));(· rw [decide_eq_false h];exact dno (fun e=>h (by rw [e])))))
 exact zk 5 R<|zq R R R<|za R R<|zn<|zt<|z1 R R (rB (dno (fun e=>g10 (by rw [e]))))
theorem Aq5 (a b:Ce):XC Tryz.prog 37 [.agg (Ce.c a), .agg (Ce.c b)] (fun r=>r=dB (decide (a=b))):=by
 refine Al Aej Tryz.func37 R R lb<|zr<|XL.step R (Ao 2 (l:= [.d (.sl 2 (a.clefs.map Cf.c)), .d (.sl 2 (a.voices.map Vo.c))]) R R (by kernel_rfl))<|XL.step R (Ao 3 (l:= [.d (.sl 2 (b.clefs.map Cf.c)), .d (.sl 2 (b.voices.map Vo.c))]) R R (by kernel_rfl))<|za R R<|znr<|zp (Aa R R G6)<|zp (Ab R R Pc R R)<|zp (Aa R R G6)<|?_
 refine zp (Ab R R Pc R R)<|XL.call1 R R (Ans _ _) R<|zm R R<|?_
 refine XL.dec 10 R (fun g10=> ?_) (fun g10=> ?_)
 exact zp (Aa R R Cs)<|zp (Ab R R Gi R R)<|zp (Aa R R Cs)<|zp (Ab R R Gi R R)<|XL.call1 R R (Akm _ _ _ (fun x _ y _=>Ao4 x y)) R<|zq R R R<|za R R<|zn<|zt<|z1 R R (rB (by by_cases h:a.voices=b.voices;(· rw [decide_eq_true h];exact Anz (Ce.eq_yes g10 h));(· rw [decide_eq_false h];exact dno (fun e=>h (by rw [e])))))
 exact zk 5 R<|zq R R R<|za R R<|zn<|zt<|z1 R R (rB (dno (fun e=>g10 (by rw [e]))))
def Mh.f (h:Mh):List D:= [dI h.site,dI h.num,dI h.m.count,dI h.m.unit,dI h.m.g0,dI h.m.g1,dI h.m.g2,dI h.m.g3,dI h.m.g4,dI h.m.g5,dI h.len,dI h.fifths,dB h.start,dI h.fin,dI h.ends,dI h.jump,dI h.labels,dI h.swing,dI h.brk, .v (.string ⟨h.reh.toArray⟩)]
theorem Mh.eqv_iff {a b:Mh}:((a.site=b.site∧a.num=b.num)∧(a.m.count=b.m.count∧a.m.unit=b.m.unit∧(a.m.g0=b.m.g0∧a.m.g1=b.m.g1∧a.m.g2=b.m.g2∧a.m.g3=b.m.g3∧a.m.g4=b.m.g4∧a.m.g5=b.m.g5))∧a.len=b.len∧a.fifths=b.fifths∧a.start=b.start∧a.fin=b.fin∧a.ends=b.ends∧a.jump=b.jump∧a.labels=b.labels∧a.swing=b.swing∧a.brk=b.brk∧(ByteArray.mk a.reh.toArray).toList=(ByteArray.mk b.reh.toArray).toList)↔a=b:=by
 constructor
 ·rintro ⟨⟨h1,h2⟩,⟨h3,h4,h5,h6,h7,h8,h9,h10⟩,h11,h12,h13,h14,h15,h16,h17,h18,h19,h20⟩
  obtain ⟨a1,a2,⟨a3,a4,a5,a6,a7,a8,a9,a10⟩,a11,a12,a13,a14,a15,a16,a17,a18,a19,a20⟩:=a
  obtain ⟨b1,b2,⟨b3,b4,b5,b6,b7,b8,b9,b10⟩,b11,b12,b13,b14,b15,b16,b17,b18,b19,b20⟩:=b
  simp only [J9] at h1 h2 h3 h4 h5 h6 h7 h8 h9 h10 h11 h12 h13 h14 h15 h16 h17 h18 h19 h20
  subst h1 h2 h3 h4 h5 h6 h7 h8 h9 h10 h11 h12 h13 h14 h15 h16 h17 h18 h19 h20;rfl
 ·rintro rfl
  simp
theorem Kf (m:Ms):XC Tryz.prog 72 [.agg (Ms.c m)] (fun r=>r= .agg (Mh.f m.h)):=by
 refine Al Ad0 Tryz.func72 R R lb<|zr<|?_
 refine XL.step R (Ao 1 (l:= [.d (dI m.h.site), .d (dI m.h.num), .d (dI m.h.m.count), .d (dI m.h.m.unit), .d (dI m.h.m.g0), .d (dI m.h.m.g1), .d (dI m.h.m.g2), .d (dI m.h.m.g3), .d (dI m.h.m.g4), .d (dI m.h.m.g5), .d (dI m.h.len), .d (dI m.h.fifths), .d (dB m.h.start), .d (dI m.h.fin), .d (dI m.h.ends), .d (dI m.h.jump), .d (dI m.h.labels), .d (dI m.h.swing), .d (dI m.h.brk), .d (.v (.string ⟨m.h.reh.toArray⟩)), .d (.sl 3 (m.tempi.map Tm.c)), .d (.sl 2 (m.cells.map Ce.c))]) R R (by kernel_rfl))<|?_
 refine XL.step R (Ap 2 (l:= [.d (dI 0), .d (dI 0), .d (dI 0), .d (dI 0), .d (dI 0), .d (dI 0), .d (dI 0), .d (dI 0), .d (dI 0), .d (dI 0), .d (dI 0), .d (dI 0), .d (dB false), .d (dI 0), .d (dI 0), .d (dI 0), .d (dI 0), .d (dI 0), .d (dI 0), .d (.v (.string ⟨#[]⟩))]) R X7 (by kernel_rfl))<|znr<|zp (Aa R R Ani)<|?_
 refine zp (Ae (s':= .d (.agg [dI m.h.site,dI m.h.num])) (Ac (Ad R R Nu R lb)) (by kernel_rfl))<|zp (Aa R R H4)<|zp (Ae (s':= .d (.agg (Me.c m.h.m))) (Ac (Ad R R Br R lb)) (by kernel_rfl))<|zp (Aa R R Ge)<|zp (Ab R R Ai R R)<|zp (Aa R R Anh)<|zp (Ab R R Ai R R)<|zp (Aa R R Ang)<|?_
 refine zp (Ab R R Pd R R)<|zp (Aa R R Anf)<|zp (Ab R R Ai R R)<|zp (Aa R R Ane)<|zp (Ab R R Ai R R)<|zp (Aa R R And)<|zp (Ab R R Ai R R)<|zp (Aa R R Anc)<|zp (Ab R R Ai R R)<|zp (Aa R R Anb)<|zp (Ab R R Ai R R)<|zp (Aa R R Akc)<|zp (Ab R R Ai R R)<|?_
 refine zp (Aa R R Iz)<|zp (Ab R R Jf R R)<|?_
 refine zp (Ae (s':= .d (.agg [dI m.h.site,dI m.h.num,dI m.h.m.count,dI m.h.m.unit,dI m.h.m.g0,dI m.h.m.g1,dI m.h.m.g2,dI m.h.m.g3,dI m.h.m.g4,dI m.h.m.g5,dI m.h.len,dI m.h.fifths,dB m.h.start,dI m.h.fin,dI m.h.ends,dI m.h.jump,dI m.h.labels,dI m.h.swing,dI m.h.brk, .v (.string ⟨m.h.reh.toArray⟩)])) (Ac (Ay (r:= [.d (dI m.h.site), .d (dI m.h.num), .d (dI m.h.m.count), .d (dI m.h.m.unit), .d (dI m.h.m.g0), .d (dI m.h.m.g1), .d (dI m.h.m.g2), .d (dI m.h.m.g3), .d (dI m.h.m.g4), .d (dI m.h.m.g5), .d (dI m.h.len), .d (dI m.h.fifths), .d (dB m.h.start), .d (dI m.h.fin), .d (dI m.h.ends), .d (dI m.h.jump), .d (dI m.h.labels), .d (dI m.h.swing), .d (dI m.h.brk), .d (.v (.string ⟨m.h.reh.toArray⟩))]) R Apk X7 (by kernel_rfl))) (by kernel_rfl))<|?_
 refine XL.step R (Af (l':= [.d (dI m.h.site), .d (dI m.h.num), .d (dI m.h.m.count), .d (dI m.h.m.unit), .d (dI m.h.m.g0), .d (dI m.h.m.g1), .d (dI m.h.m.g2), .d (dI m.h.m.g3), .d (dI m.h.m.g4), .d (dI m.h.m.g5), .d (dI m.h.len), .d (dI m.h.fifths), .d (dB m.h.start), .d (dI m.h.fin), .d (dI m.h.ends), .d (dI m.h.jump), .d (dI m.h.labels), .d (dI m.h.swing), .d (dI m.h.brk), .d (.v (.string ⟨m.h.reh.toArray⟩))]) R R R R Arn R lb (by kernel_rfl))<|?_
 refine zn<|zt<|?_
 exact Ji R (RV.cells R R R Arc lb R) (R)
theorem Afi (a b:Ms):XC Tryz.prog 30 [.agg (Ms.c a), .agg (Ms.c b)] (fun r=>r=dB (decide (a=b))):=by
 refine Al Ael Tryz.func30 R R lb<|zr<|?_
 refine XL.step R (Ao 2 (l:= [.d (dI a.h.site), .d (dI a.h.num), .d (dI a.h.m.count), .d (dI a.h.m.unit), .d (dI a.h.m.g0), .d (dI a.h.m.g1), .d (dI a.h.m.g2), .d (dI a.h.m.g3), .d (dI a.h.m.g4), .d (dI a.h.m.g5), .d (dI a.h.len), .d (dI a.h.fifths), .d (dB a.h.start), .d (dI a.h.fin), .d (dI a.h.ends), .d (dI a.h.jump), .d (dI a.h.labels), .d (dI a.h.swing), .d (dI a.h.brk), .d (.v (.string ⟨a.h.reh.toArray⟩)), .d (.sl 3 (a.tempi.map Tm.c)), .d (.sl 2 (a.cells.map Ce.c))]) R R (by kernel_rfl))<|?_
 refine XL.step R (Ao 3 (l:= [.d (dI b.h.site), .d (dI b.h.num), .d (dI b.h.m.count), .d (dI b.h.m.unit), .d (dI b.h.m.g0), .d (dI b.h.m.g1), .d (dI b.h.m.g2), .d (dI b.h.m.g3), .d (dI b.h.m.g4), .d (dI b.h.m.g5), .d (dI b.h.len), .d (dI b.h.fifths), .d (dB b.h.start), .d (dI b.h.fin), .d (dI b.h.ends), .d (dI b.h.jump), .d (dI b.h.labels), .d (dI b.h.swing), .d (dI b.h.brk), .d (.v (.string ⟨b.h.reh.toArray⟩)), .d (.sl 3 (b.tempi.map Tm.c)), .d (.sl 2 (b.cells.map Ce.c))]) R R (by kernel_rfl))<|?_
 refine za R R<|zn<|zs<|?_
 by_cases q9:((a.h.site=b.h.site∧a.h.num=b.h.num)∧(a.h.m.count=b.h.m.count∧a.h.m.unit=b.h.m.unit∧(a.h.m.g0=b.h.m.g0∧a.h.m.g1=b.h.m.g1∧a.h.m.g2=b.h.m.g2∧a.h.m.g3=b.h.m.g3∧a.h.m.g4=b.h.m.g4∧a.h.m.g5=b.h.m.g5))∧a.h.len=b.h.len∧a.h.fifths=b.h.fifths∧a.h.start=b.h.start∧a.h.fin=b.h.fin∧a.h.ends=b.h.ends∧a.h.jump=b.h.jump∧a.h.labels=b.h.labels∧a.h.swing=b.h.swing∧a.h.brk=b.h.brk∧(ByteArray.mk a.h.reh.toArray).toList=(ByteArray.mk b.h.reh.toArray).toList)
 by_cases q15:(a.tempi=b.tempi)
 refine Cb [] (by kernel_rfl) (by kernel_rfl) (by kernel_rfl) (by decide)<|yp (Ae (s':= .d (.agg (Ms.c a))) (Ac (Ad R R A1 R lb)) (by kernel_rfl))<|ChK.cons R (CStep.call R (Kf _) R)<|yp (Ae (s':= .d (.agg (Ms.c b))) (Ac (Ad R R A1 R lb)) (by kernel_rfl))<|ChK.cons R (CStep.call R (Kf _) R)<|yp (D4 (Qq R R R) (q9))<|ym R R<|?_
 refine yp (Aa R R Ek)<|yp (Ab R R Lf R R)<|yp (Aa R R Ek)<|yp (Ab R R Lf R R)<|ChK.cons R (CStep.call R (P6 (Aaa _ _) q15) R)<|yp (Bw R R (by conv=>lhs;whnf))<|?_
 refine ym R R<|yp (Aa R R B1)<|yp (Ab R R Eb R R)<|yp (Aa R R B1)<|yp (Ab R R Eb R R)<|ChK.cons R (CStep.call R (Ako _ _ _ (fun x _ y _=>Aq5 x y)) R)<|yp (Bw R R (by conv=>lhs;whnf))<|?_
 refine ya R R<|?_
 refine ChK.nil ⟨by kernel_rfl, ?_⟩
 exact zt<|z1 R R (rB (by by_cases h:a.cells=b.cells;(· rw [decide_eq_true h];exact Anz (Ms.eq_yes (Mh.eqv_iff.1 q9) q15 h));(· rw [decide_eq_false h];exact dno (fun e=>h (by rw [e])))))
 refine Cb [] (by kernel_rfl) (by kernel_rfl) (by kernel_rfl) (by decide)<|yp (Ae (s':= .d (.agg (Ms.c a))) (Ac (Ad R R A1 R lb)) (by kernel_rfl))<|ChK.cons R (CStep.call R (Kf _) R)<|yp (Ae (s':= .d (.agg (Ms.c b))) (Ac (Ad R R A1 R lb)) (by kernel_rfl))<|ChK.cons R (CStep.call R (Kf _) R)<|yp (D4 (Qq R R R) (q9))<|ym R R<|?_
 refine yp (Aa R R Ek)<|yp (Ab R R Lf R R)<|yp (Aa R R Ek)<|yp (Ab R R Lf R R)<|ChK.cons R (CStep.call R (Af8 (Aaa _ _) q15) R)<|yp (Bw R R (by conv=>lhs;whnf))<|?_
 refine ym R R<|ChK.skip R<|ChK.skip R<|ChK.skip R<|ChK.skip R<|ChK.skip R<|yp (Bw R R (by conv=>lhs;whnf))<|?_
 refine ya R R<|?_
 refine ChK.nil ⟨by kernel_rfl, ?_⟩
 exact zt<|z1 R R (rB (dno (fun e=>q15 (by rw [e]))))
 refine Cb [] (by kernel_rfl) (by kernel_rfl) (by kernel_rfl) (by decide)<|yp (Ae (s':= .d (.agg (Ms.c a))) (Ac (Ad R R A1 R lb)) (by kernel_rfl))<|ChK.cons R (CStep.call R (Kf _) R)<|yp (Ae (s':= .d (.agg (Ms.c b))) (Ac (Ad R R A1 R lb)) (by kernel_rfl))<|ChK.cons R (CStep.call R (Kf _) R)<|yp (He (Qq R R R) (q9))<|ym R R<|?_
 refine ChK.skip R<|ChK.skip R<|ChK.skip R<|ChK.skip R<|ChK.skip R<|yp (Bw R R (by conv=>lhs;whnf))<|?_
 refine ym R R<|ChK.skip R<|ChK.skip R<|ChK.skip R<|ChK.skip R<|ChK.skip R<|yp (Bw R R (by conv=>lhs;whnf))<|?_
 refine ya R R<|?_
 refine ChK.nil ⟨by kernel_rfl, ?_⟩
 exact zt<|z1 R R (rB (dno (fun e=>q9 (Mh.eqv_iff.2 (by rw [e])))))
end Go.Proofs.YtaafemnkamfgnaaGreat
namespace Go.Proofs.YtaafemnkamfgnaaGreat
open Go.RowKit
def bEv:Ev:=⟨0,0,3,⟨0,0⟩, [], [],0,0,0, [],0,0⟩
def bVo:Vo:=⟨[bEv], []⟩
def bCe:Ce:=⟨[], [bVo]⟩
def blH (t:Me) (n f:Int):Mh:=Mh.sh (⟨0,0,Me.z,0,f,false,0,0,0,0,0,0, []⟩:Mh) t n
def blM (t:Me) (n f s:Int):Ms:=⟨blH t n f, [],List.replicate s.toNat bCe⟩
def blE (t:Me) (n f s:Int):Int:=if mlE t n≠0 then mlE t n else if f< -7∨7<f∨s<1∨128<s then 2 else 0
def blS (t:Me) (n f s:Int):Ms:=if blE t n f s≠0 then Ms.z else blM t n f s
end Go.Proofs.YtaafemnkamfgnaaGreat
namespace Go.Proofs.YtaafemnkamfgnaaGreat
open Go.RowKit
def idxA {α:Type} (p:α→Bool) (l:List α):Int:=match l.findIdx? p with|some k=>(k:Int)|none=> -1
def Ev.snd (e:Ev):Bool:=decide (e.kind=1∧0<e.heads.length)
def Vo.snd (v:Vo):Bool:=v.evs.any Ev.snd
def Ms.sil (m:Ms) (s:Int):Bool:=if s<0∨(m.cells.length:Int)≤s then true else !((m.cell s).voices.any Vo.snd)
end Go.Proofs.YtaafemnkamfgnaaGreat
namespace Go.Proofs.YtaafemnkamfgnaaGreat
open Go.RowKit
def evI (e:Ev):Id:=⟨e.site,e.num⟩
def voI (v:Vo):List Id:=v.evs.map evI
def Auu (l:List Vo):List Id:=(l.map voI).flatten
def Avk (l:List Ce):List Id:=(l.map fun c=>Auu c.voices).flatten
def idsM (m:Ms):List Id:=⟨m.h.site,m.h.num⟩::Avk m.cells
end Go.Proofs.YtaafemnkamfgnaaGreat
namespace Go.Proofs.YtaafemnkamfgnaaGreat
open Go.RowKit
theorem Arv (s:Sy):Jw (Jw s)=Jw s:=by simp [Jw,List.take_take]
theorem Arx (e:Ev):Jy (Jy e)=Jy e:=by
 simp only [Jy,List.take_take,Nat.min_self]
 rw [←List.map_take,List.take_take,Nat.min_self,List.map_map]
 congr 1
 exact List.map_congr_left fun s _=>Arv s
theorem Aiq (v:Vo):A9 (A9 v)=A9 v:=by
 simp only [A9,List.take_take,Nat.min_self]
 rw [←List.map_take,List.take_take,Nat.min_self,List.map_map]
 congr 1
 exact List.map_congr_left fun s _=>Arx s
theorem Ary (c:Ce):M9 (M9 c)=M9 c:=by
 simp only [M9,List.take_take,Nat.min_self]
 rw [←List.map_take,List.take_take,Nat.min_self,List.map_map]
 congr 1
 exact List.map_congr_left fun s _=>Aiq s
theorem Arw (m:Ms):A4 (A4 m)=A4 m:=by
 simp only [A4,shH,List.take_take,Nat.min_self]
 rw [←List.map_take,List.take_take,Nat.min_self,List.map_map]
 congr 1
 exact List.map_congr_left fun s _=>Ary s
end Go.Proofs.YtaafemnkamfgnaaGreat
namespace Go.Proofs.YtaafemnkamfgnaaGreat
open Go.RowKit
def Zk {α:Type} (f:Int→α→α) (g:Int→α→Int):Int→List α→List α
 |_, []=> []
 |b,x::l=>f b x::Zk f g (g b x) l
def Am7 {α:Type} (g:Int→α→Int) (b:Int) (l:List α):Int:=l.foldl g b
def Au8 (s b:Int) (e:Ev):Ev:=if e.site=0∧e.num=0 then {e with site:=s,num:=b} else e
def Asg (b:Int) (e:Ev):Int:=if e.site=0∧e.num=0 then b+1 else b
def Au7 (s b:Int) (v:Vo):Vo:=⟨Zk (Au8 s) Asg b v.evs,v.tups⟩
def Asf (b:Int) (v:Vo):Int:=Am7 Asg b v.evs
def Au9 (s b:Int) (c:Ce):Ce:=⟨c.clefs,Zk (Au7 s) Asf b c.voices⟩
def Ash (b:Int) (c:Ce):Int:=Am7 Asf b c.voices
def numM (m:Ms) (s b:Int):Ms:=⟨m.h,m.tempi,Zk (Au9 s) Ash b m.cells⟩
def nxtM (m:Ms) (b:Int):Int:=Am7 Ash b m.cells
def Avn (e:Ev):Ev:={e with site:=0,num:=0}
def Avm (v:Vo):Vo:=⟨v.evs.map Avn,v.tups⟩
def Avo (c:Ce):Ce:=⟨c.clefs,c.voices.map Avm⟩
def anoM (m:Ms):Ms:=⟨{m.h with site:=0,num:=0},m.tempi,m.cells.map Avo⟩
end Go.Proofs.YtaafemnkamfgnaaGreat
namespace Go.Proofs.YtaafemnkamfgnaaGreat
open Go.RowKit
def mapD {α:Type} (f:Int→α→α) (g:Int→α→Int) (b:Int) (l:List α) (k:Nat):List α:=Zk f g b (l.take k)++l.drop k
end Go.Proofs.YtaafemnkamfgnaaGreat
namespace Go.Proofs.YtaafemnkamfgnaaGreat
open Go.RowKit
theorem Air (m:Ms):(A4 m).room:=fun c hc v hv e he=>by
 obtain ⟨x,_,rfl⟩:=List.mem_map.1 hc
 obtain ⟨y,_,rfl⟩:=List.mem_map.1 hv
 obtain ⟨z,_,rfl⟩:=List.mem_map.1 he
 refine ⟨?_, ?_, ?_⟩
 ·show (z.heads.take 5).length*40≤_;rw [List.length_take];omega
 ·show (z.graces.take 4).length*40≤_;rw [List.length_take];omega
 ·show ((z.lyr.take 5).map Jw).length*24≤_;rw [List.length_map,List.length_take];omega
end Go.Proofs.YtaafemnkamfgnaaGreat
namespace Go.Proofs.YtaafemnkamfgnaaGreat
open Go.RowKit
def OpG (P:Program) (n:Nat) (ops:Array Oper) (o:Oper) (f:Fr) (h1:Xh) (ids:List Nat) (s:S):Prop:=
 (Bp ops f n o.guard=some true∧Acz P o (ev f) h1 ids s)∨(Bp ops f n o.guard=some false∧ids= []∧s= .d (.v undef))
structure GOK (P:Program) (n:Nat) (ops:Array Oper) (κ κ2:S→S) (hA hB hC:Xh) (o:Oper) (fA fB fC:Fr) (c:C3) (ids:List Nat) (sA sB sC:S):Prop where
 a:(c= .bf∨c= .fr∨c= .ff)→OpG P n ops o fA hA ids sA∧sB=κ sA
 b:(c= .af∨c= .fr∨c= .fl∨c= .ff)→OpF P n ops o fB hB sB
 l:(c= .fl∨c= .ff)→OpF P n ops o fC hC sC
 k:c≠ .st→sC=κ2 sB
 m:c= .mu→Bp ops fA n o.guard=some true∧Ju P n o fA hA 987654 sB κ hB
 s:c= .st→Bp ops fB n o.guard=some true∧Ju P n o fB hB 987654 sC κ2 hC
 i:c= .bf∨ids= []
inductive ChG (P:Program) (n:Nat) (ops:Array Oper) (κ κ2:S→S) (hA hB hC:Xh):List Oper→Fr→Fr→Fr→List C3→List (List Nat × S)→List S→List S→Fr→Prop where
 |nil (fA fB fC:Fr):ChG P n ops κ κ2 hA hB hC [] fA fB fC [] [] [] [] fC
 |step {o:Oper} {rest:List Oper} {fA fB fC f':Fr} {c:C3} {ids:List Nat} {sA sB sC:S} {C:List C3} {LA:List (List Nat × S)} {LB LC:List S} (hok:GOK P n ops κ κ2 hA hB hC o fA fB fC c ids sA sB sC) (hr:ChG P n ops κ κ2 hA hB hC rest (Bb fA o.dst sA) (Bb fB o.dst sB) (Bb fC o.dst sC) C LA LB LC f'):
   ChG P n ops κ κ2 hA hB hC (o::rest) fA fB fC (c::C) ((ids,sA)::LA) (sB::LB) (sC::LC) f'
section
variable (P:Program) (n:Nat) (ops:Array Oper) (pre:List Oper) (p p2:Nat) (fA fB fC:Fr) (hA hB hC:Xh) (LA:List (List Nat × S)) (LB LC:List S) (E:Env)
def InvG (listed:Array Bool) (a:Act) (w:World):Prop:=
 (listed.size=ops.size∧(∀j o e,ops[j]? =some o→listed.getD j false=true→e∈o.after→Region.binds .any e=true→listed.getD e.on false=true)∧∀k,pre.length≤k→listed.getD k false=false)∧
  ((listed.getD p false = false ∧ listed.getD p2 false = false ∧ ∃ H β, Sim E H β hA w ∧ FV n H β a (A7 fA pre LA (fun j => listed.getD j false) pre.length) ∧ ∀ (k : Nat) (q : List Nat × S), LA[k]? = some q → listed.getD k false = false → ∀ i ∈ q.1, β i = none) ∨
   (listed.getD p false=true∧listed.getD p2 false=false∧∃H β,Sim E H β hB w∧FV n H β a (A7 fB pre (noI LB) (fun j=>listed.getD j false) pre.length))∨
   (listed.getD p2 false = true ∧ ∃ H β, Sim E H β hC w ∧ FV n H β a (A7 fC pre (noI LC) (fun j => listed.getD j false) pre.length)))
end
def ChGK (P:Program) (n:Nat) (ops:Array Oper) (κ κ2:S→S) (hA hB hC:Xh) (rest:List Oper) (fA fB fC:Fr) (acc:List C3) (ia:List Nat) (G:List C3→List Nat→Fr→Prop):Prop:=∃C LA LB LC f',ChG P n ops κ κ2 hA hB hC rest fA fB fC C LA LB LC f'∧G (acc++C) (ia++LA.flatMap (·.1)) f'
section
variable {P:Program} {n:Nat} {ops:Array Oper} {κ κ2:S→S} {hA hB hC:Xh} {rest:List Oper} {fA fB fC:Fr} {o:Oper} {s s' s2:S} {acc:List C3} {ia ids:List Nat} {G:List C3→List Nat→Fr→Prop}
end
end Go.Proofs.YtaafemnkamfgnaaGreat
namespace Go.Proofs.YtaafemnkamfgnaaGreat
open Go.RowKit
def Asv (x:Int):List Int→List Int
 | []=> [x]
 |y::l=>if y<x then y::Asv x l else if y=x then y::l else x::y::l
def colU (l:List Slt):List Int:=l.foldl (fun out s=>Asv s.on out) []
end Go.Proofs.YtaafemnkamfgnaaGreat
namespace Go.Proofs.YtaafemnkamfgnaaGreat
open Go.RowKit
def Adj {α:Type} (R:α→α→Prop) (l:List α):Prop:=∀k y x,l[k]? =some y→l[k+1]? =some x→R y x
def NextS (y x:Slt):Prop:=x.staff=y.staff→x.voice=y.voice→x.on=y.off
end Go.Proofs.YtaafemnkamfgnaaGreat
namespace Go.Proofs.YtaafemnkamfgnaaGreat
open Go.RowKit
def Vo.z:Vo:=⟨[], []⟩
def Vq (l:List Vo) (w:Nat):List Vo:=l++List.replicate (w+1 - l.length) Vo.z
def U7 (v:Vo):Bool:=Nat.beq v.evs.length 0
def Cm (l:List Vo):List Vo:=(l.reverse.dropWhile U7).reverse
def svL (l:List Vo) (w:Nat) (v:Vo):List Vo:=(Vq l w).set w v
def svC (x:Ce) (w:Nat) (v:Vo):Ce:=⟨x.clefs,Cm (svL x.voices w v)⟩
def svM (m:Ms) (s n:Int) (v:Vo):Ms:=match m.cells[s.toNat]? with
 |some x=>⟨m.h,m.tempi,m.cells.set s.toNat (svC x n.toNat v)⟩
 |none=>m
def svE (m:Ms) (s n:Int) (v:Vo):Int:=if mlE m.h.m m.h.len≠0 then mlE m.h.m m.h.len else if s<0∨(m.cells.length:Int)≤s∨n<0∨1<n then 2 else if v.evs.length=0∧n=0 then 10 else if v.evs.length≠0∧ckE v (mlV m.h.m m.h.len)≠0 then ckE v (mlV m.h.m m.h.len) else 0
theorem Atu {m:Ms} {s n:Int} {v:Vo} (h:mlE m.h.m m.h.len≠0):svE m s n v=mlE m.h.m m.h.len:=by rw [svE,if_pos h]
theorem Att {m:Ms} {s n:Int} {v:Vo} (h:¬mlE m.h.m m.h.len≠0) (h2:s<0∨(m.cells.length:Int)≤s∨n<0∨1<n):svE m s n v=2:=by rw [svE,if_neg h,if_pos h2]
theorem Ats {m:Ms} {s n:Int} {v:Vo} (h:¬mlE m.h.m m.h.len≠0) (h2:¬(s<0∨(m.cells.length:Int)≤s∨n<0∨1<n)) (h3:v.evs.length=0∧n=0):svE m s n v=10:=by rw [svE,if_neg h,if_neg h2,if_pos h3]
theorem Atr {m:Ms} {s n:Int} {v:Vo} (h:¬mlE m.h.m m.h.len≠0) (h2:¬(s<0∨(m.cells.length:Int)≤s∨n<0∨1<n)) (h4:v.evs.length≠0) (h5:ckE v (mlV m.h.m m.h.len)≠0):svE m s n v=ckE v (mlV m.h.m m.h.len):=by rw [svE,if_neg h,if_neg h2,if_neg (fun e=>h4 e.1),if_pos ⟨h4,h5⟩]
theorem Atq {m:Ms} {s n:Int} {v:Vo} (h:¬mlE m.h.m m.h.len≠0) (h2:¬(s<0∨(m.cells.length:Int)≤s∨n<0∨1<n)) (h3:¬(v.evs.length=0∧n=0)) (h4:v.evs.length=0∨ckE v (mlV m.h.m m.h.len)=0):svE m s n v=0:=by rw [svE,if_neg h,if_neg h2,if_neg h3,if_neg (fun e=>h4.elim e.1 e.2)]
theorem Arp {m:Ms} {s n:Int} {v:Vo} {q w:Nat} {x:Ce} (hq:s=q) (hw:n=w) (hx:m.cells[q]? =some x):(⟨m.h,m.tempi,m.cells.set q (svC x w v)⟩:Ms)=svM m s n v:=by
 subst hq hw
 unfold svM
 rw [show (q:Int).toNat=q from rfl,hx];rfl
theorem St (l:List Vo) (z:Vo):Cm (l++ [z])=if z.evs.length=0 then Cm l else l++ [z]:=by
 unfold Cm
 rw [List.reverse_append]
 show (List.dropWhile U7 (z::l.reverse)).reverse=_
 rw [List.dropWhile_cons]
 by_cases h:z.evs.length=0
 ·rw [if_pos h,if_pos (by unfold U7;rw [h];rfl)]
 ·rw [if_neg h,if_neg (by unfold U7;intro e;exact h (Nat.eq_of_beq_eq_true e)),List.reverse_cons,List.reverse_reverse]
theorem Md {l:List Vo} {k:Nat} {z:Vo} (hk:0<k) (hz:l[k - 1]? =some z) (h:z.evs.length=0):Cm (l.take k)=Cm (l.take (k - 1)):=by
 have:=By hz
 rw [Nat.sub_add_cancel hk] at this
 rw [this,St,if_pos h]
theorem Hh {l:List Vo} {k:Nat} {z:Vo} (hk:0<k) (hz:l[k - 1]? =some z) (h:¬z.evs.length=0):l.take k=Cm (l.take k):=by
 have:=By hz
 rw [Nat.sub_add_cancel hk] at this
 rw [this,St,if_neg h]
theorem Ags {e:TypeId} {sz m:Nat} {α:Type} {g:α→List D} {l l':List α} (h:l.take m=l'):some (XO.row e sz ((l.map g).take m))=some (XO.row e sz (l'.map g)):=by rw [←h,List.map_take]
theorem Ka {l:List Vo} {k:Nat} (hk:k=0):l.take k=Cm (l.take k):=by subst hk;simp [Cm]
theorem Uv {l:List Vo} {w k:Nat} (h:k=0∨l.length+k≤w+1) (h2:¬(l++List.replicate k Vo.z).length≤w):l++List.replicate k Vo.z=Vq l w:=by
 rw [List.length_append,List.length_replicate] at h2
 rw [Vq,show w+1 - l.length=k by omega]
theorem Ph (l:List Vo) (w:Nat):w<(Vq l w).length:=by rw [Vq,List.length_append,List.length_replicate];omega
theorem Rp (l:List Vo) (w:Nat) (v:Vo):(svL l w v).length≤l.length+w+1:=by rw [svL,List.length_set,Vq,List.length_append,List.length_replicate];omega
theorem We {k:Nat} {x:List T}:∀{l:List (List T)} {k:Nat},T.toDLL (l.set k x)=(T.toDLL l).set k (T.toDL x)
 | [],_=>rfl
 |y::l,0=>rfl
 |y::l,k+1=>by simp only [List.set_cons_succ,T.toDLL,We (k:=k) (l:=l) (x:=x)]
theorem H0 {x:List T} (hx:T.fzL x=true):∀{l:List (List T)} {k:Nat},T.fzLL l=true→T.fzLL (l.set k x)=true
 | [],_,_=>rfl
 |y::l,0,h=>by
  simp only [T.fzLL,Bool.and_eq_true] at h
  simp only [List.set_cons_zero,T.fzLL,Bool.and_eq_true];exact ⟨hx,h.2⟩
 |y::l,k+1,h=>by
  simp only [T.fzLL,Bool.and_eq_true] at h
  simp only [List.set_cons_succ,T.fzLL,Bool.and_eq_true];exact ⟨h.1,H0 hx h.2⟩
theorem Qe {l:List Ce} {q:Nat} (y:Ce):T.toDLL ((l.map Ce.t).set q (Ce.u y))=(l.set q y).map Ce.c:=by rw [We (k:=q),Ces.t_D,List.map_set];rfl
theorem Dp {m m0:Ms} {s n:Int} {v v0:Vo} (h:mlE m.h.m m.h.len≠0):D.tup [.agg (Ms.c Ms.z),dI (mlE m.h.m m.h.len)]= .tup [.agg (Ms.c (if svE m s n v≠0 then Ms.z else svM m0 s n v0)),dI (svE m s n v)]:=by rw [Atu h,if_pos h]
theorem Do {m m0:Ms} {s n:Int} {v v0:Vo} (h:¬mlE m.h.m m.h.len≠0) (h2:s<0∨(m.cells.length:Int)≤s∨n<0∨1<n):D.tup [.agg (Ms.c Ms.z),dI 2]= .tup [.agg (Ms.c (if svE m s n v≠0 then Ms.z else svM m0 s n v0)),dI (svE m s n v)]:=by rw [Att h h2,if_pos (by decide)]
theorem Dn {m m0:Ms} {s n:Int} {v v0:Vo} (h:¬mlE m.h.m m.h.len≠0) (h2:¬(s<0∨(m.cells.length:Int)≤s∨n<0∨1<n)) (h3:v.evs.length=0∧n=0):D.tup [.agg (Ms.c Ms.z),dI 10]= .tup [.agg (Ms.c (if svE m s n v≠0 then Ms.z else svM m0 s n v0)),dI (svE m s n v)]:=by rw [Ats h h2 h3,if_pos (by decide)]
theorem Dm {m m0:Ms} {s n:Int} {v v0:Vo} (h:¬mlE m.h.m m.h.len≠0) (h2:¬(s<0∨(m.cells.length:Int)≤s∨n<0∨1<n)) (h4:v.evs.length≠0) (h5:ckE v (mlV m.h.m m.h.len)≠0):D.tup [.agg (Ms.c Ms.z),dI (ckE v (mlV m.h.m m.h.len))]= .tup [.agg (Ms.c (if svE m s n v≠0 then Ms.z else svM m0 s n v0)),dI (svE m s n v)]:=by rw [Atr h h2 h4 h5,if_pos h5]
theorem Dl {m m0:Ms} {s n:Int} {v v0:Vo} {q w:Nat} {x:Ce} (h:¬mlE m.h.m m.h.len≠0) (h2:¬(s<0∨(m.cells.length:Int)≤s∨n<0∨1<n)) (h3:¬(v.evs.length=0∧n=0)) (h4:v.evs.length=0∨ckE v (mlV m.h.m m.h.len)=0) (hq:s=q) (hw:n=w) (hx:m0.cells[q]? =some x):D.tup [.agg (Ms.c ⟨m0.h,m0.tempi,m0.cells.set q (svC x w v0)⟩),dI 0]= .tup [.agg (Ms.c (if svE m s n v≠0 then Ms.z else svM m0 s n v0)),dI (svE m s n v)]:=by rw [Atq h h2 h3 h4,if_neg (by decide),Arp hq hw hx]
end Go.Proofs.YtaafemnkamfgnaaGreat
