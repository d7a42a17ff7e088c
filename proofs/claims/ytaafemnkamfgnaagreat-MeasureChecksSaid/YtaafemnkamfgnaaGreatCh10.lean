/- Part 10 of what the statements need: lemmas and walks. -/
import Derived.Lib.OwnBridge
import Derived.Test.YtaafemnkamfgnaaGreatCh9
set_option linter.unusedVariables false
set_option linter.unusedSimpArgs false
set_option linter.unusedSectionVars false
set_option maxRecDepth 20000
set_option maxHeartbeats 8000000
namespace Go.Proofs.YtaafemnkamfgnaaGreat
open Go.RowKit
open Go.Sort in
theorem Akd {zs:List Int} {c:Array Value} (h:zs.length≤c.size):(putCells (Value.int .i64) 0 zs.toArray c).toList.take zs.length=zs.map (Value.int .i64):=by
 apply List.ext_getElem?
 intro k
 rw [List.getElem?_take,List.getElem?_map]
 by_cases hk:k<zs.length
 ·rw [if_pos hk,Array.getElem?_toList,putCells,Array.getElem?_mapIdx,Array.getElem?_eq_getElem (by omega),Option.map_some,if_pos ⟨by omega,by simpa using hk⟩,List.getElem?_eq_getElem hk,Option.map_some]
  congr 2
  rw [Nat.sub_zero,getElem!_pos _ k (by simpa using hk)]
  simp
 ·rw [if_neg hk,List.getElem?_eq_none (by omega)];rfl
abbrev ixs (zs:List Int):List (List D):=zs.map iv
theorem Aev {E:Env} {H:Hp} {β:Bt} {h:Xh} {w:World} {i:Nat} {zs:List Int} {L:Loc} (hs:Sim E H β h w) (hi:h i=some (.row 3 1 (ixs zs))) (hL:β i=some L):
  (L.v= .slice none 0 0∧zs= [])∨∃cap cur,L.v= .slice (some ⟨L.b,0,none⟩) zs.length cap∧L.sz=1∧E.w.heap.size≤L.b∧w.heap[L.b]? =some (.cells cur 3 (0,0))∧zs.length≤cap∧cap≤maxLen∧cur.size=cap∧cur.toList.take zs.length=zs.map (Value.int .i64):=by
 obtain ⟨hsz,hz,hvb,us,hown,hone,hcells⟩:=hs.obj i _ L hi hL
 have hn:(ixs zs).length=zs.length:=by simp [ixs]
 rw [hn] at hown
 rcases hown.2 with ⟨e1,e2⟩|⟨g,cap,cur,e1,e2,e3,e4,e5,e6,e7⟩
 ·exact .inl ⟨e1,List.length_eq_zero_iff.1 e2⟩
 ·have hg:=hvb g (by rw [e1];rfl)
  subst hg
  rw [Nat.mul_one] at e6 e7
  refine .inr ⟨cap,cur,e1,hsz,e2,e3,e4,e5,e6, ?_⟩
  rw [e7]
  have hl:us.length=zs.length:=by rw [hown.1,Nat.mul_one]
  apply List.ext_getElem?
  intro k
  by_cases hk:k<zs.length
  ·obtain ⟨u,h1,h2⟩:=hcells k 0 [dI zs[k]] (dI zs[k]) (by simp [ixs,hk];rfl) rfl
   rw [Nat.mul_one,Nat.add_zero] at h1
   rw [h1,Pk h2]
   simp [hk]
  ·rw [List.getElem?_eq_none (by omega),List.getElem?_eq_none (by simp;omega)]
open Go.Sort in
theorem Sim.putI {E:Env} {H:Hp} {β:Bt} {h:Xh} {w:World} {i q:Nat} {zs ys:List Int} {L:Loc} {cap:Nat} {cur:Array Value} (hs:Sim E H β h w) (hi:h i=some (.row 3 1 (ixs zs))) (hL:β i=some L)
  (hv:L.v= .slice (some ⟨L.b,0,none⟩) zs.length cap) (hb:E.w.heap.size≤L.b) (hc:w.heap[L.b]? =some (.cells cur 3 (0,0))) (hn:zs.length≤cap) (hm:cap≤maxLen) (hz:cur.size=cap) (hl:ys.length=zs.length):
  Sim E H β (h.set i (.row 3 1 (ixs ys))) (putRow (Value.int .i64) (Sort.ahead w q) L.b 0 ys.toArray):=by
 obtain ⟨hsz,_,hvb,_⟩:=hs.obj i _ L hi hL
 have s2:Sim E H β h (Sort.ahead w q):=hs.call ⟨rfl,rfl,rfl,Nat.le_refl _,fun _ _=>rfl⟩ (Hp.le.refl _) (fun b o u e=> .inl e) hs.imm
 have hcell:(putRow (Value.int .i64) (Sort.ahead w q) L.b 0 ys.toArray).heap[L.b]? =some (.cells (putCells (Value.int .i64) 0 ys.toArray cur) 3 (0,0)):=by
  show (w.heap.modify L.b _)[L.b]? =_
  rw [Array.getElem?_modify,if_pos rfl,hc];rfl
 have hcs:(putCells (Value.int .i64) 0 ys.toArray cur).size=cap:=by simp [putCells,hz]
 refine s2.turn hi hL rfl (Go.Lib.below_putRow hs.below hb) (fun b hb'=> ?_) ?_
 ·show (w.heap.modify L.b _)[b]? =w.heap[b]?
  rw [Array.getElem?_modify,if_neg]
  intro e
  exact hb' (by simp [XO.blk,hv,Value.ownBlock,e])
 ·have hlen:(ixs ys).length=zs.length:=by simp [ixs,hl]
  refine ⟨hsz,fun x hx=> ?_,hvb,ys.map (Value.int .i64),⟨by simp [ixs], .inr ⟨L.b,cap,_,by rw [hlen];exact hv,hb,hcell,by rw [hlen];exact hn,hm,by rw [Nat.mul_one];exact hcs, ?_⟩⟩,fun u hu=> ?_,fun k j x d hk hj=> ?_⟩
  ·obtain ⟨z,_,rfl⟩:=List.mem_map.1 hx;rfl
  ·rw [show (ixs ys).length*1=ys.length by simp [ixs]]
   exact Akd (by omega)
  ·obtain ⟨z,_,rfl⟩:=List.mem_map.1 hu;rfl
  ·rw [ixs,List.getElem?_map] at hk
   cases hy:ys[k]? with
   |none=>rw [hy] at hk;cases hk
   |some z=>
    rw [hy] at hk;cases hk
    match j with
    |0=>cases hj;exact ⟨.int .i64 z,by rw [Nat.mul_one,Nat.add_zero,List.getElem?_map,hy];rfl, .v _⟩
    |j+1=>simp [iv] at hj
open Go.Sort in
theorem Sim.grow {E:Env} {H:Hp} {β:Bt} {h:Xh} {w:World} (hs:Sim E H β h w) (os:Array Obj):Sim E H β h (Go.Sort.grow w os):=by
 have hb:Below w.heap.size w (Go.Sort.grow w os):=⟨rfl,rfl,rfl,by simp,fun k hk=>by simp only [Go.Sort.grow];rw [Array.getElem?_append_left hk]⟩
 exact hs.call hb (Hp.le.refl _) (fun b o u e=> .inl e) (hs.imm.below hb)
theorem Wp {w:World} {b:Nat} {cur:Array Value} {zs:List Int} (hc:w.heap[b]? =some (.cells cur 3 (0,0))) (ht:cur.toList.take zs.length=zs.map (Value.int .i64)):Go.Sort.Holds (Value.int .i64) w b 0 zs.toArray:=fun j hj=>by
 have hj':j<zs.length:=by simpa using hj
 have:cur[j]? =some (.int .i64 zs[j]):=by
  have h1:(cur.toList.take zs.length)[j]? =some (.int .i64 zs[j]):=by rw [ht];simp [hj']
  rw [List.getElem?_take,if_pos hj'] at h1
  simpa using h1
 refine ⟨?_,by simp [World.frozen?,hc]⟩
 simp [World.cell?,hc,this,hj']
def srt (zs:List Int):List Int:=zs.mergeSort fun x y=>decide (x≤y)
theorem Aeh (zs:List Int):(srt zs).length=zs.length:=List.length_mergeSort _
theorem Aeg:srt []= []:=by simp [srt]
section
variable {n:Nat} {f:Fr} {h:Xh} {o:Oper} {ops rest:List Oper} {K:Cq} {tys:Array TypeId}
theorem Aot {i:Nat} {x:Operand} {zs:List Int} (ho:o.op= .call {callee:= .value (.func 58),args:= #[x],argTypes:=tys}) (hx:ev f x= .own i) (hi:h i=some (.row 3 1 (ixs zs))) (hlen:zs.length<4611686018427387904):
  Step Tryz.prog n o f h .any f (h.set i (.row 3 1 (ixs (srt zs)))):=by
 intro E H β a w hs hfv hop
 have g:=hop x (by rw [ho];simp [Op.operands,Call.operands])
 rw [hx] at g
 obtain ⟨L,hL,hv⟩:=Fp g
 have fin:∀w',Sim E H β (h.set i (.row 3 1 (ixs (srt zs)))) w'→∃H' β' u,a.put o.dst (.tuple #[])=a.put o.dst u∧Sim E H' β' (h.set i (.row 3 1 (ixs (srt zs)))) w'∧FV n H' β' a f∧VS H' β' u .any:=fun w' k=>⟨H,β,_,rfl,k,hfv, .any _⟩
 unfold Oper.wp
 rw [M6 ho Adn,show (#[x]:Array Operand).map a.eval= #[a.eval x] by simp]
 rw [hv]
 rcases Aev hs hi hL with ⟨e1,rfl⟩|⟨cap,cur,e1,_,e2,e3,e4,e5,e6,e7⟩
 ·rw [e1]
  refine (Tryz.slices_Sort_int_none none 0 w).mono ?_
  rintro e w' ⟨rfl,rfl⟩
  exact fin _ (by rw [Aeg,Xh.set_self hi];exact hs)
 ·rw [e1]
  refine (Tryz.slices_Sort_int L.b 0 cap zs w (Wp e3 e7) (Array.getElem?_eq_some_iff.1 e3).1 hlen).mono ?_
  rintro e w' ⟨rfl,q,os,rfl⟩
  exact fin _ ((hs.putI hi hL e1 e2 e3 e4 e5 e6 (Aeh zs)).grow os)
theorem Xe {h:Xh} {i:Nat} {o o2:XO}:((h.set i o).kill i).set i o2=(h.kill i).set i o2:=by
 funext j
 by_cases e:i=j
 ·subst e;rw [Xh.set_same,Xh.set_same]
 ·rw [Xh.set_ne _ _ e,Xh.set_ne _ _ e,Xh.kill_ne _ e,Xh.kill_ne _ e,Xh.set_ne _ _ e]
def cpt (zs:List Int):List Int:=Go.Lib.compact zs
theorem Ae9 (zs:List Int):(cpt zs).length≤zs.length:=Go.Lib.compact_length_le zs
theorem Ae8:cpt []= []:=by have:=Ae9 [];exact List.length_eq_zero_iff.1 (by simpa using this)
theorem Sim.cutR {E:Env} {H:Hp} {β:Bt} {h:Xh} {w:World} {i m c:Nat} {ty:TypeId} {sz:Nat} {r:List (List D)} {L:Loc} {A:Option Addr} (hs:Sim E H β h w) (hi:h i=some (.row ty sz r)) (hL:β i=some L) (hv:L.v= .slice A r.length c) (hm:m≤r.length):
  Sim E H (β.set i (some ⟨.slice A m c,L.b,sz,noB⟩)) ((h.kill i).set i (.row ty sz (r.take m))) w:=by
 obtain ⟨h1,hz,hvb,us,hown,hone,hc⟩:=hs.obj i _ L hi hL
 have hn2:(r.take m).length=m:=by rw [List.length_take];omega
 have hblk:(Value.slice A m c).ownBlock=L.v.ownBlock:=by rw [hv];cases A<;>rfl
 have hmul:m*sz≤r.length*sz:=Nat.mul_le_mul_right _ hm
 refine hs.lay i _ _ (fun b hb=>⟨_,L,hi,hL, ?_⟩) ⟨rfl,fun x hx=>hz x (List.mem_of_mem_take hx),fun b hb=>hvb b (by rw [←hblk];exact hb),us.take (m*sz),⟨?_, ?_⟩,fun u hu=>hone u (List.mem_of_mem_take hu),fun k j x d hk hj=> ?_⟩
 ·simp only [XO.blk] at hb ⊢
  rw [←hblk];exact hb
 ·rw [hn2,List.length_take,hown.1];omega
 ·rw [hn2]
  rcases hown.2 with ⟨e1,e2⟩|⟨g,cap,cur,e1,e2,e3,e4,e5,e6,e7⟩
  ·rw [hv] at e1
   injection e1 with q1 q2 q3
   subst q1 q3
   have:m=0:=by omega
   subst this
   exact .inl ⟨rfl,rfl⟩
  ·rw [hv] at e1
   injection e1 with q1 q2 q3
   subst q1 q3
   refine .inr ⟨g,c,cur,rfl,e2,e3,by omega,e5,e6, ?_⟩
   rw [←e7,List.take_take,Nat.min_eq_left hmul]
 ·have hkm:k<m:=by have:=(List.getElem?_eq_some_iff.1 hk).1;rw [List.length_take] at this;omega
  rw [List.getElem?_take,if_pos hkm] at hk
  obtain ⟨u,h5,h6⟩:=hc k j x d hk hj
  have hjs:j<sz:=by have:=(List.getElem?_eq_some_iff.1 hj).1;rw [hz x (List.mem_of_getElem? hk)] at this;exact this
  have h7:(k+1)*sz≤m*sz:=Nat.mul_le_mul_right _ hkm
  rw [Nat.add_mul] at h7
  exact ⟨u,by rw [List.getElem?_take,if_pos (by omega)];exact h5,h6⟩
theorem Sim.cutI {E:Env} {H:Hp} {β:Bt} {h:Xh} {w:World} {i m c:Nat} {zs:List Int} {L:Loc} {A:Option Addr} (hs:Sim E H β h w) (hi:h i=some (.row 3 1 (ixs zs))) (hL:β i=some L) (hv:L.v= .slice A zs.length c) (hm:m≤zs.length):
  Sim E H (β.set i (some ⟨.slice A m c,L.b,1,noB⟩)) ((h.kill i).set i (.row 3 1 (ixs (zs.take m)))) w:=by
 have:=hs.cutR hi hL (by rw [List.length_map];exact hv) (by rw [List.length_map];exact hm)
 rw [←List.map_take] at this
 exact this
theorem Afx {i:Nat} {x:Operand} {zs:List Int} (ho:o.op= .call {callee:= .value (.func 59),args:= #[x],argTypes:=tys}) (hx:ev f x= .own i) (hi:h i=some (.row 3 1 (ixs zs))) (hlen:zs.length≤9223372036854775807):
  Step Tryz.prog n o f h (.own i) (D1 f i) ((h.kill i).set i (.row 3 1 (ixs (cpt zs)))):=by
 intro E H β a w hs hfv hop
 have g:=hop x (by rw [ho];simp [Op.operands,Call.operands])
 rw [hx] at g
 obtain ⟨L,hL,hv⟩:=Fp g
 unfold Oper.wp
 rw [M6 ho Adm,show (#[x]:Array Operand).map a.eval= #[a.eval x] by simp]
 rw [hv]
 rcases Aev hs hi hL with ⟨e1,rfl⟩|⟨cap,cur,e1,_,e2,e3,e4,e5,e6,e7⟩
 ·rw [e1]
  refine (Tryz.slices_Compact_int_empty none 0 w).mono ?_
  rintro e w' ⟨rfl,rfl⟩
  have:=hs.cutI hi hL e1 (Nat.le_refl _)
  rw [Ae8]
  exact ⟨H,_,_,rfl,this,hfv.kill i _,VS.own (Bt.set_same _ _ _)⟩
 ·rw [e1]
  refine (Tryz.slices_Compact_int L.b 0 cap zs w (Wp e3 e7) hlen e4).mono ?_
  rintro e w' ⟨rfl,q,rfl⟩
  have hl:=Ae9 zs
  have hl2:(Go.Lib.compact zs++List.replicate (zs.length - (Go.Lib.compact zs).length) 0).length=zs.length:=by unfold cpt at hl;simp;omega
  have k:=(hs.putI (q:=q) hi hL e1 e2 e3 e4 e5 e6 hl2).cutI (m:=(cpt zs).length) (Xh.set_same _ _ _) hL (by rw [hl2];exact e1) (by rw [hl2];exact hl)
  rw [Xe,cpt,List.take_left] at k
  exact ⟨H,_,_,rfl,k,hfv.kill i _,VS.own (Bt.set_same _ _ _)⟩
end
def Z1 (m:Ms):List Int:=cpt (srt ((slL m).map (·.on)))
theorem Ask {m:Ms} (h:slE m≠0):Z1 m= []:=by rw [Z1,slL,if_pos h];simp [Aeg,Ae8]
theorem r2i {l l':List Int} {a b:Int} (h:l=l') (h2:a=b):D.tup [.sl 1 (l.map iv),dI a]= .tup [.sl 1 (l'.map iv),dI b]:=by rw [h,h2]
theorem Aov {m:Ms} (hF:m.fit):(slL m).length≤3000000000:=by
 unfold slL
 split
 ·exact Nat.zero_le _
 ·have:=Z0 (L:=mlV m.h.m m.h.len) (l:=m.cells) (fun c hc=>(hF.c c hc).voices)
  have:=hF.cells
  omega
theorem Ag1 (m:Ms) (hF:m.fit) (hE:m.evs):XC Tryz.prog 21 [.agg (Ms.c m)] (fun r=>r= .tup [.sl 1 ((Z1 m).map iv),dI (slE m)]):=by
 have hsl:=Aov hF
 refine Ak Adz Tryz.func21 R R lb<|zr<|?_
 refine XL.step R (Ar 1 (l:= [.d (dI m.h.site), .d (dI m.h.num), .d (dI m.h.m.count), .d (dI m.h.m.unit), .d (dI m.h.m.g0), .d (dI m.h.m.g1), .d (dI m.h.m.g2), .d (dI m.h.m.g3), .d (dI m.h.m.g4), .d (dI m.h.m.g5), .d (dI m.h.len), .d (dI m.h.fifths), .d (dB m.h.start), .d (dI m.h.fin), .d (dI m.h.ends), .d (dI m.h.jump), .d (dI m.h.labels), .d (dI m.h.swing), .d (dI m.h.brk), .d (.v (.string ⟨m.h.reh.toArray⟩)), .d (.sl 3 (m.tempi.map Tm.c)), .d (.sl 2 (m.cells.map Ce.c))]) R R (by kernel_rfl))<|?_
 refine za R R<|za R R<|znr<|zp (Ae (s':= .d (.agg (Ms.c m))) (Ac (Ad R R Cb R lb)) (by kernel_rfl))<|XL.call1 R R (Yd _ (by assumption) (by assumption)) R<|zm R R<|zp (Ao R R R)<|zp (Ao R R R)<|za R R<|za R R<|zn<|zs<|zr<|zm R R<|?_
 refine zp (A1 R R R)<|zn<|?_
 refine zd R (fun c15=> ?_) (fun c15=> ?_)
 refine zr<|zm R R<|za R R<|za R R<|zn<|zt<|?_
 exact Ay R (RV.nil (sz:=1) R R) (RV.tmp R R) (r2i (Ask (by assumption)).symm R)
 refine zi<|zr<|za R R<|zn<|zs<|zr<|zm R R<|XL.len R R R Tryz.underlying42 fun hl18=>zm R R<|zn<|Ah<|Dp 7801 6 3 1 R<|?_
 refine Az (α:=Nat) (fun k=>k≤(slL m).length) (fun k=>mkF [(2, .d (.v (.slice none 0 0))),(3, .d (dI 0)),(6, .own 7801),(17, .d (.sl 5 ((slL m).map Slt.c))),(18, .d (dI (slL m).length)),(19, .d (dI k))]) (fun k=>mkH [(7801, .row 3 1 ((((slL m).take k).map (·.on)).map iv))]) (fun k=>(slL m).length - k) (0) (Nat.zero_le _) ?_ ?_ ?_
 exact fz ⟨sr,sr,sr,sr,sr,sr,trivial⟩
 exact gz ⟨R,trivial⟩
 intro k hk0
 refine zr<|zp (Ap R R R)<|zn<|zs<|?_
 refine zd R (fun c20=> ?_) (fun c20=> ?_)
 have hk0a:k<(slL m).length:=by omega
 obtain ⟨x0,hx0⟩:=Ax hk0a
 refine zi<|zs<|Ah<|zr<|zp (Aq R R R Anw hx0)<|zp (Ae (s':= .d (.agg (Slt.c x0))) (A8 R R Aki lb) (by kernel_rfl))<|XL.step R (Al 8 (l:= [.d (dI 0), .d (dI 0), .d (dI 0), .d (dI 0), .d (dI 0)]) R L5 (by kernel_rfl))<|?_
 refine XL.step R (Af (l':= [.d (dI x0.staff), .d (dI x0.voice), .d (dI x0.ev), .d (dI x0.on), .d (dI x0.off)]) R R R R Afw R lb (by kernel_rfl))<|zng<|zp (Au R (by conv=>lhs;whnf))<|?_
 refine zp (Aa R R Amj)<|zp (Ab R R Ai R R)<|XL.step R (Bj 26 R Tryz.underlying45 Eu Hk R R (by omega) (by omega))<|XL.step R (A6 R Ql (.own R) (Src.own R) (by unfold maxLen;simp;omega) (by simp;omega))<|zp (At R (by conv=>lhs;whnf))<|?_
 refine zn<|Ag (by kernel_rfl)<|zp (Am R R R (by omega) (by omega))<|zm R R<|zn<|?_
 exact An (k+1) (by omega) (by omega) (fz ⟨sr,sr,sr,sr,sr,sr,trivial⟩) (gz ⟨Jc (a:=x0.on) R (by rw [Br hx0,List.map_append];rfl),trivial⟩)
 have hk0b:k=(slL m).length:=by omega
 refine Av<|zr<|zp (Au R (by conv=>lhs;whnf))<|?_
 refine XL.step R (Aot (zs:=((slL m).take k).map (·.on)) R R R (by rw [List.length_map,List.length_take];omega))<|znr<|zp (Au R (by conv=>lhs;whnf))<|?_
 refine XL.step R (Afx (zs:=srt (((slL m).take k).map (·.on))) R R R (by rw [Aeh,List.length_map,List.length_take];omega))<|zp (At R (by conv=>lhs;whnf))<|?_
 refine za R R<|zn<|zt<|B7 (i:=7801) R<|?_
 exact Ay R (RV.tmp R R) (RV.tmp R R) (r2i (by rw [hk0b,List.take_length];rfl) (by omega))
end Go.Proofs.YtaafemnkamfgnaaGreat
namespace Go.Proofs.YtaafemnkamfgnaaGreat
open Go.RowKit
inductive C3 where
 |bf|fr|af|fl|ff|mu|st
 deriving DecidableEq
def OpF (P:Program) (n:Nat) (ops:Array Oper) (o:Oper) (f:Fr) (h1:Xh) (s:S):Prop:=
 (Bi ops f n o.guard=some true∧Ahd P o (ev f) h1 [] s)∨(Bi ops f n o.guard=some false∧s= .d (.v undef))
structure FOK (P:Program) (n:Nat) (ops:Array Oper) (κ:S→S) (hA hB hC:Xh) (o:Oper) (fA fB:Fr) (c:C3) (sA sB:S):Prop where
 a:(c= .bf∨c= .fr∨c= .ff)→OpF P n ops o fA hA sA∧sB=κ sA
 b:(c= .af∨c= .fr∨c= .fl∨c= .ff)→OpF P n ops o fB hB sB
 l:(c= .fl∨c= .ff)→OpF P n ops o fB hC sB
 m:c= .mu→Bi ops fA n o.guard=some true∧K3 P n o fA hA 987654 sB κ hB
 s:c= .st→Bi ops fB n o.guard=some true∧K3 P n o fB hB 987654 sB id hC
inductive ChF (P:Program) (n:Nat) (ops:Array Oper) (κ:S→S) (hA hB hC:Xh):List Oper→Fr→Fr→List C3→List S→List S→Fr→Prop where
 |nil (fA fB:Fr):ChF P n ops κ hA hB hC [] fA fB [] [] [] fB
 |step {o:Oper} {rest:List Oper} {fA fB f':Fr} {c:C3} {sA sB:S} {C:List C3} {LA LB:List S} (hok:FOK P n ops κ hA hB hC o fA fB c sA sB) (hr:ChF P n ops κ hA hB hC rest (A9 fA o.dst sA) (A9 fB o.dst sB) C LA LB f'):
   ChF P n ops κ hA hB hC (o::rest) fA fB (c::C) (sA::LA) (sB::LB) f'
def noI (L:List S):List (List Nat × S):=L.map fun s=>([],s)
theorem Ra {L:List S} {k:Nat} {s:S} (h:L[k]? =some s):(noI L)[k]? =some ([],s):=by rw [noI,List.getElem?_map,h];rfl
theorem Ais {L:List S} {k:Nat} {q:List Nat × S} (h:(noI L)[k]? =some q):L[k]? =some q.2∧q.1= []:=by
 rw [noI,List.getElem?_map] at h
 cases hl:L[k]? with
 |none=>rw [hl] at h;cases h
 |some s=>rw [hl] at h;cases h;exact ⟨rfl,rfl⟩
theorem ChF.ok {P:Program} {n:Nat} {ops:Array Oper} {κ:S→S} {hA hB hC:Xh} {l:List Oper} {fA fB f':Fr} {C:List C3} {LA LB:List S} (hc:ChF P n ops κ hA hB hC l fA fB C LA LB f'):
  C.length=l.length∧LA.length=l.length∧LB.length=l.length∧
  (∀k o c sA sB,l[k]? =some o→C[k]? =some c→LA[k]? =some sA→LB[k]? =some sB→FOK P n ops κ hA hB hC o (A5 fA l (noI LA) Dm k) (A5 fB l (noI LB) Dm k) c sA sB)∧A5 fB l (noI LB) Dm l.length=f':=by
 induction hc with
 |nil=>exact ⟨rfl,rfl,rfl,fun k o c qa qb e=>by simp at e,rfl⟩
 | @step o rest fA fB f' c sA sB C LA LB hok hr ih=>
  obtain ⟨i1,i2,i3,i4,i5⟩:=ih
  refine ⟨by simp [i1],by simp [i2],by simp [i3],fun k o' c' qa qb h1 h2 h3 h4=> ?_, ?_⟩
  ·cases k with
   |zero=>simp at h1 h2 h3 h4;subst h1 h2 h3 h4;exact hok
   |succ k=>
    have e1:noI (sA::LA)=([],sA)::noI LA:=rfl
    have e2:noI (sB::LB)=([],sB)::noI LB:=rfl
    rw [e1,e2,Fg,Fg];exact i4 k o' c' qa qb (by simpa using h1) (by simpa using h2) (by simpa using h3) (by simpa using h4)
  ·have e2:noI (sB::LB)=([],sB)::noI LB:=rfl
   rw [e2,List.length_cons,Fg];exact i5
def Ag2 (ops:Array Oper) (p p2:Nat) (C:List C3):Bool:=
 (List.range C.length).all fun k=>
  match C[k]? with
  |some .bf=>C1 ops 9 p k && C1 ops 9 p2 k
  |some .af=>C1 ops 9 k p && C1 ops 9 p2 k
  |some .fl=>C1 ops 9 k p
  |some .mu=>Nat.beq k p && C1 ops 9 p2 k
  |some .st=>Nat.beq k p2 && C1 ops 9 k p
  |some .fr=>C1 ops 9 p2 k
  |some .ff=>true
  |none=>true
section
variable (P:Program) (n:Nat) (ops:Array Oper) (pre:List Oper) (p p2:Nat) (fA fB:Fr) (hA hB hC:Xh) (LA LB:List S) (E:Env)
def And (listed:Array Bool) (a:Act) (w:World):Prop:=
 (listed.size=ops.size∧(∀j o e,ops[j]? =some o→listed.getD j false=true→e∈o.after→Region.binds .any e=true→listed.getD e.on false=true)∧∀k,pre.length≤k→listed.getD k false=false)∧
  ((listed.getD p false = false ∧ listed.getD p2 false = false ∧ ∃ H β, Sim E H β hA w ∧ FV n H β a (A5 fA pre (noI LA) (fun j => listed.getD j false) pre.length)) ∨
   (listed.getD p false=true∧listed.getD p2 false=false∧∃H β,Sim E H β hB w∧FV n H β a (A5 fB pre (noI LB) (fun j=>listed.getD j false) pre.length))∨
   (listed.getD p2 false = true ∧ ∃ H β, Sim E H β hC w ∧ FV n H β a (A5 fB pre (noI LB) (fun j => listed.getD j false) pre.length)))
end
theorem Aje {P:Program} {n:Nat} {ops:Array Oper} {pre:List Oper} {p p2:Nat} {fA fB:Fr} {hA hB hC:Xh} {LA LB:List S} {E:Env} {Q:Exit→Act→World→Prop} {κ:S→S} {C:List C3}
  (hops:∀j,j<pre.length→ops[j]? =pre[j]?) (hin:pre.all (inN n)=true) (hreg:Jd ops pre=true) (hf:∀t,fB t=κ (fA t)) (hCl:C.length=pre.length) (hAl:LA.length=pre.length) (hBl:LB.length=pre.length)
  (hok:∀k o c sA sB,pre[k]? =some o→C[k]? =some c→LA[k]? =some sA→LB[k]? =some sB→FOK P n ops κ hA hB hC o (A5 fA pre (noI LA) Dm k) (A5 fB pre (noI LB) Dm k) c sA sB)
  (hp:C[p]? =some .mu) (hp2:C[p2]? =some .st) (hcls:Ag2 ops p p2 C=true) {listed:Array Bool} {a:Act} {w:World} (hI:And n ops pre p p2 fA fB hA hB hC LA LB E listed a w) {i:Nat} (hi:i∈Region.ready .any ops listed) (hip0:i<pre.length):
  wpOp P ops Q i (fun a' w'=>And n ops pre p p2 fA fB hA hB hC LA LB E (listed.setIfInBounds i true) a' w') a w:=by
 obtain ⟨⟨hsz,hdown,hunp⟩,hcase⟩:=hI
 have hcl:∀k c,C[k]? =some c→match c with|C3.bf=>C1 ops 9 p k=true∧C1 ops 9 p2 k=true|C3.af=>C1 ops 9 k p=true∧C1 ops 9 p2 k=true|C3.fl=>C1 ops 9 k p=true|C3.mu=>k=p∧C1 ops 9 p2 k=true|C3.st=>k=p2∧C1 ops 9 k p=true|C3.ff=>True|C3.fr=>C1 ops 9 p2 k=true:=by
  intro k c hck
  unfold Ag2 at hcls
  have:=List.all_eq_true.1 hcls k (List.mem_range.2 (List.getElem?_eq_some_iff.1 hck).1)
  rw [hck] at this
  cases c with
  |mu=>simp only [Bool.and_eq_true] at this;exact ⟨Nat.eq_of_beq_eq_true this.1,this.2⟩
  |st=>simp only [Bool.and_eq_true] at this;exact ⟨Nat.eq_of_beq_eq_true this.1,this.2⟩
  |fr=>exact this
  |ff=>trivial
  |fl=>exact this
  |bf=>simpa [Bool.and_eq_true] using this
  |af=>simpa [Bool.and_eq_true] using this
 obtain ⟨hil,hunl,o,ho,hdeps⟩:=E9 hi
 have hil':i<pre.length:=hip0
 have hol:pre[i]? =some o:=by rw [←hops i hip0];exact ho
 obtain ⟨sA,hLA⟩:∃q,LA[i]? =some q:=⟨_,List.getElem?_eq_getElem (by omega)⟩
 obtain ⟨sB,hLB⟩:∃q,LB[i]? =some q:=⟨_,List.getElem?_eq_getElem (by omega)⟩
 obtain ⟨c,hC'⟩:∃q,C[i]? =some q:=⟨_,List.getElem?_eq_getElem (by omega)⟩
 have hunl':listed.getD i false=false:=by rw [←G3 true (by omega)];exact hunl
 have hdown':∀j o e,ops[j]? =some o→(fun j=>listed.getD j false) j=true→e∈o.after→Region.binds .any e=true→(fun j=>listed.getD j false) e.on=true:=fun j o e h1 h2 h3 h4=>hdown j o e (by simpa using h1) h2 h3 h4
 have hwl:∀d j,C1 ops (d+1) i j=true→listed.getD j false=true:=by
  intro d j hw
  unfold C1 at hw
  rw [ho] at hw
  simp only [List.any_eq_true,Bool.and_eq_true,Bool.or_eq_true] at hw
  obtain ⟨e,he,hb,h2⟩:=hw
  have hl:=hdeps e (by simpa using he) hb
  rcases h2 with h2|h2
  ·rw [←Nat.eq_of_beq_eq_true h2];exact hl
  ·exact Cr hdown' d e.on j h2 hl
 have hlo:∀t,t∈B3 ops o→∀j o',j<i→pre[j]? =some o'→o'.dst=some t→listed.getD j false=true:=by
  intro t ht j o' hj hj' hd
  exact hwl 2 j (G2 hreg hj hj' hol (by unfold K1;rw [hd];simp [Hf ht]))
 have hhi:∀t,t∈B3 ops o→∀j o',i<j→pre[j]? =some o'→o'.dst=some t→listed.getD j false=false:=by
  intro t ht j o' hj hj' hd
  cases hlj:listed.getD j false with
  |false=>rfl
  |true=>
   have hw:=G2 hreg hj hol hj' (by unfold K1;rw [hd];simp [Hf ht])
   have:=Cr hdown' 3 j i hw hlj
   rw [hunl'] at this;cases this
 have hcur:∀(f0:Fr) (L:List (List Nat × S)) t,t∈B3 ops o→A5 f0 pre L (fun j=>listed.getD j false) pre.length t=A5 f0 pre L Dm i t:=by
  intro f0 L t ht
  have h1:∀j o',i≤j→pre[j]? =some o'→o'.dst=some t→(fun j=>listed.getD j false) j=false:=by
   intro j o' hj hj' hd
   by_cases e:j=i
   ·subst e;exact hunl'
   ·exact hhi t ht j o' (by omega) hj' hd
  rw [Ge h1 pre.length (by omega),Le (hlo t ht) i (Nat.le_refl _)]
 have hin':inN n o=true:=List.all_eq_true.1 hin o (List.mem_of_getElem? hol)
 have hoin:=hin'
 unfold inN at hoin
 rw [Bool.and_eq_true] at hoin
 have hopn:∀t,Operand.tmp t∈o.op.operands→t∈B3 ops o:=by
  intro t hx
  unfold B3 Oper.looksAt
  simp only [List.mem_append,List.mem_filterMap]
  exact .inr (.inl ⟨.tmp t,by simpa using hx,rfl⟩)
 have hev:∀(f0:Fr) (L:List (List Nat × S)),∀x∈o.op.operands,ev (A5 f0 pre L (fun j=>listed.getD j false) pre.length) x=ev (A5 f0 pre L Dm i) x:=by
  intro f0 L x hx
  cases x with
  |tmp t=>simp only [ev];exact hcur f0 L t (hopn t hx)
  |_=>rfl
 have hop:∀(f0:Fr) (L:List (List Nat × S)) (H:Hp) (β:Bt),FV n H β a (A5 f0 pre L (fun j=>listed.getD j false) pre.length)→∀x∈o.op.operands,VS H β (a.eval x) (ev (A5 f0 pre L Dm i) x):=by
  intro f0 L H β hfv x hx
  rw [←hev f0 L x hx]
  exact hfv.operands hin' x hx
 have hguard:∀(f0:Fr) (L:List (List Nat × S)) (H:Hp) (β:Bt),FV n H β a (A5 f0 pre L (fun j=>listed.getD j false) pre.length)→∀b,Bi ops (A5 f0 pre L Dm i) n o.guard=some b→Region.wanted o (yielded ops a.tmps)=b:=by
  intro f0 L H β hfv b hb
  refine G5 hfv ?_
  rw [←hb]
  unfold Bi
  cases hg:o.guard with
  |none=>rfl
  |some g=>
   obtain ⟨j,want⟩:=g
   simp only
   cases ht:(ops[j]?).bind (·.dst) with
   |none=>rfl
   |some t=>
    simp only
    have htn:t∈B3 ops o:=by
     unfold B3 Oper.looksAt
     rw [hg]
     simp only [List.mem_append]
     exact .inr (.inr (by rw [ht];simp))
    rw [hcur f0 L t htn]
 have hlisted':∀j,(listed.setIfInBounds i true).getD j false=if j=i then true else listed.getD j false:=by
  intro j
  by_cases e:j=i
  ·subst e
   simp [Array.getD_eq_getD_getElem?,show j<listed.size by omega]
  ·rw [if_neg e]
   simp [Array.getD_eq_getD_getElem?,Array.getElem?_setIfInBounds_ne (fun h=>e h.symm)]
 have hdown2:∀j o' e,ops[j]? =some o'→(listed.setIfInBounds i true).getD j false=true→e∈o'.after→Region.binds .any e=true→(listed.setIfInBounds i true).getD e.on false=true:=by
  intro j o' e hj hl he hb
  rw [hlisted'] at hl ⊢
  split
  ·rfl
  ·by_cases ej:j=i
   ·subst ej
    rw [ho] at hj;cases hj
    exact hdeps e he hb
   ·rw [if_neg ej] at hl
    exact hdown j o' e hj hl he hb
 have hslot:∀(f0:Fr) (L:List (List Nat × S)) (q:List Nat × S) (H':Hp) (β':Bt) (u:Value),L[i]? =some q→FV n H' β' a (A5 f0 pre L (fun j=>listed.getD j false) pre.length)→VS H' β' u q.2→FV n H' β' (a.put o.dst u) (A5 f0 pre L (fun j=>(listed.setIfInBounds i true).getD j false) pre.length):=by
  intro f0 L q H' β' u hLi hfv' hu
  have hp:=hfv'.put hu o.dst hoin.2
  refine ⟨hp.defers,hp.size,fun t ht=> ?_⟩
  have h1:=hp.slot t ht
  have hsame:∀j,j≠i→(fun j=>(listed.setIfInBounds i true).getD j false) j=(fun j=>listed.getD j false) j:=fun j hj=>by simp only;rw [hlisted',if_neg hj]
  by_cases hd:o.dst=some t
  ·have ht':t∈B3 ops o:=by unfold B3;simp [hd]
   have e1:A5 f0 pre L (fun j=>(listed.setIfInBounds i true).getD j false) pre.length t=A5 f0 pre L (fun j=>(listed.setIfInBounds i true).getD j false) (i+1) t:=by
    refine Ge (fun j o' hj hj' hd'=> ?_) pre.length (by omega)
    show (listed.setIfInBounds i true).getD j false=false
    rw [hlisted',if_neg (by omega)]
    exact hhi t ht' j o' (by omega) hj' hd'
   have e2:A5 f0 pre L (fun j=>(listed.setIfInBounds i true).getD j false) (i+1) t=q.2:=by
    unfold A5
    rw [hol,hLi]
    have hb:(listed.setIfInBounds i true).getD i false=true:=by rw [hlisted',if_pos rfl]
    simp only [hb,cond_true,A9,hd,Dk,Bf]
   have e3:A9 (A5 f0 pre L (fun j=>listed.getD j false) pre.length) o.dst q.2 t=q.2:=by rw [hd];simp only [A9,Dk,Bf,cond_true]
   rw [e1,e2]
   rw [e3] at h1
   exact h1
  ·have e1:=Kd (f:=f0) (L:=L) (lst:=fun j=>listed.getD j false) (t:=t) hsame (fun o' h=>by rw [hol] at h;cases h;exact hd) pre.length
   have e3:A9 (A5 f0 pre L (fun j=>listed.getD j false) pre.length) o.dst q.2 t=A5 f0 pre L (fun j=>listed.getD j false) pre.length t:=by
    cases hdd:o.dst with
    |none=>rfl
    |some t'=>
     have:t'≠t:=fun e=>hd (by rw [hdd,e])
     simp only [A9,Dk,Bh this,cond_false]
   rw [e1]
   rw [e3] at h1
   exact h1
 have hsz':(listed.setIfInBounds i true).size=ops.size:=by simpa using hsz
 have hunp2:∀k,pre.length≤k→(listed.setIfInBounds i true).getD k false=false:=fun k hk=>by rw [hlisted',if_neg (by omega)];exact hunp k hk
 have fok:=hok i o c _ _ hol hC' hLA hLB
 have hcls1:=hcl i c hC'
 have hpp2:p≠p2:=fun e=>by rw [e,hp2] at hp;cases hp
 have hbase:(listed.setIfInBounds i true).size=ops.size∧(∀j o e,ops[j]? =some o→(listed.setIfInBounds i true).getD j false=true→e∈o.after→Region.binds .any e=true→(listed.setIfInBounds i true).getD e.on false=true)∧∀k,pre.length≤k→(listed.setIfInBounds i true).getD k false=false:=⟨hsz',hdown2,hunp2⟩
 have keep:∀j,j≠i→(listed.setIfInBounds i true).getD j false=listed.getD j false:=fun j hj=>by rw [hlisted',if_neg hj]
 have hgB:(noI LB)[i]? =some ([],sB):=Ra hLB
 have hgA:(noI LA)[i]? =some ([],sA):=Ra hLA
 unfold wpOp
 rw [ho]
 simp only
 have cas:∀(f0:Fr) (L:List S) (s:S) (hX:Xh) (H:Hp) (β:Bt),L[i]? =some s→OpF P n ops o (A5 f0 pre (noI L) Dm i) hX s→Sim E H β hX w→FV n H β a (A5 f0 pre (noI L) (fun j=>listed.getD j false) pre.length)→
   ∀K:Act→World→Prop,(∀a' w',(∃H' β',Sim E H' β' hX w'∧FV n H' β' a' (A5 f0 pre (noI L) (fun j=>(listed.setIfInBounds i true).getD j false) pre.length))→K a' w')→
   ((Region.wanted o (yielded ops a.tmps)=true∧o.wp P a w K NoQ)∨(Region.wanted o (yielded ops a.tmps)=false∧K (a.put o.dst undef) w)):=by
  intro f0 L s hX H β hL hop' hsim hfv K hK
  rcases hop' with ⟨hw,hcalm⟩|⟨hw,hs0⟩
  ·refine .inl ⟨hguard f0 (noI L) H β hfv _ hw,Do (hcalm E H β a w hsim (fun _ e=>by cases e) (hop f0 (noI L) H β hfv)) ?_⟩
   rintro a' w' ⟨H',β',u,rfl,k1,k2,k3,_,k5⟩
   exact hK _ _ ⟨H',β',k1,hslot f0 (noI L) ([],s) H' β' u (Ra hL) (hfv.mono k2 k3) k5⟩
  ·exact .inr ⟨hguard f0 (noI L) H β hfv _ hw,hK _ _ ⟨H,β,hsim,hslot f0 (noI L) ([],s) H β undef (Ra hL) hfv (by rw [hs0];exact .d (.v _))⟩⟩
 have fin:∀K:Act→World→Prop,(Region.wanted o (yielded ops a.tmps)=true∧o.wp P a w K NoQ)∨(Region.wanted o (yielded ops a.tmps)=false∧K (a.put o.dst undef) w)→
   if Region.wanted o (yielded ops a.tmps)=true then o.wp P a w K Q∨(o.asks P a w∧LetsOut Q) else K (a.put o.dst undef) w:=by
  intro K h
  rcases h with ⟨h1,h2⟩|⟨h1,h2⟩
  ·rw [if_pos h1];exact .inl (Do h2 fun _ _ h=>h)
  ·rw [if_neg (by rw [h1];decide)];exact h2
 rcases hcase with ⟨hpn,hpn2,H,β,hsim,hfv⟩|⟨hpy,hpn2,H,β,hsim,hfv⟩|⟨hpy2,H,β,hsim,hfv⟩
 ·by_cases hip:i=p
  ·subst hip
   have:c= .mu:=by rw [hC'] at hp;cases hp;rfl
   subst this
   obtain ⟨k1,k2⟩:=fok.m rfl
   refine fin _ (.inl ⟨hguard fA (noI LA) H β hfv _ k1,Do (k2 _ (hev fA (noI LA)) E H β a w hsim hfv (hfv.operands hin')) ?_⟩)
   rintro a' w' ⟨H',β',u,rfl,q1,q2,_,q3⟩
   refine ⟨hbase, .inr (.inl ⟨by rw [hlisted',if_pos rfl],by rw [keep p2 (fun e=>hpp2 e.symm)];exact hpn2,H',β',q1,hslot fB (noI LB) ([],sB) H' β' u hgB ⟨q2.defers,q2.size,fun t ht=> ?_⟩ q3⟩)⟩
   have hrel := Tq (κ := κ) (l := pre) (LA := noI LA) (LB := noI LB) (lst := fun j => listed.getD j false) (fA := fA) (fB := fB) hf (by rw [noI, noI, List.length_map, List.length_map]; omega) (fun k qa' qb' ha hb hlk => by
    obtain ⟨ha1,_⟩:=Ais ha
    obtain ⟨hb1,_⟩:=Ais hb
    have hkl:k<pre.length:=by rw [←hAl];exact (List.getElem?_eq_some_iff.1 ha1).1
    obtain ⟨c',hC2⟩:∃q,C[k]? =some q:=⟨_,List.getElem?_eq_getElem (by omega)⟩
    have hokk:=hok k _ c' _ _ (List.getElem?_eq_getElem hkl) hC2 ha1 hb1
    have hck:=hcl k c' hC2
    cases c' with
    |bf=>exact (hokk.a (.inl rfl)).2
    |fr=>exact (hokk.a (.inr (.inl rfl))).2
    |ff=>exact (hokk.a (.inr (.inr rfl))).2
    |mu=>
     have:k=i:=hck.1
     subst this
     rw [hunl'] at hlk;cases hlk
    |af=>
     have:=Cr hdown' 9 k i hck.1 hlk
     rw [hunl'] at this;cases this
    |fl=>
     have:=Cr hdown' 9 k i hck hlk
     rw [hunl'] at this;cases this
    |st=>
     have:=Cr hdown' 9 k i hck.2 hlk
     rw [hunl'] at this; cases this) pre.length t
   rw [hrel]
   exact q2.slot t ht
  ·have hnw:C1 ops 9 i p=true→False:=fun h=>by
    have:=hwl 8 p h
    rw [hpn] at this;cases this
   have hcase2:c= .bf∨c= .fr∨c= .ff:=by
    cases c with
    |bf=>exact .inl rfl
    |fr=>exact .inr (.inl rfl)
    |ff=>exact .inr (.inr rfl)
    |mu=>exact absurd hcls1.1 hip
    |af=>exact (hnw hcls1.1).elim
    |fl=>exact (hnw hcls1).elim
    |st=>exact (hnw hcls1.2).elim
   have hip2:i≠p2:=fun e=>by subst e;rw [hC'] at hp2;cases hp2;rcases hcase2 with h|h|h<;>cases h
   exact fin _ (cas fA LA sA hA H β hLA (fok.a hcase2).1 hsim hfv _ fun a' w' ⟨H',β',k1,k2⟩=>⟨hbase, .inl ⟨by rw [keep p (fun e=>hip e.symm)];exact hpn,by rw [keep p2 (fun e=>hip2 e.symm)];exact hpn2,H',β',k1,k2⟩⟩)
 ·have hip:i≠p:=fun e=>by subst e;rw [hunl'] at hpy;cases hpy
  by_cases hip2:i=p2
  ·subst hip2
   have:c= .st:=by rw [hC'] at hp2;cases hp2;rfl
   subst this
   obtain ⟨k1,k2⟩:=fok.s rfl
   refine fin _ (.inl ⟨hguard fB (noI LB) H β hfv _ k1,Do (k2 _ (hev fB (noI LB)) E H β a w hsim hfv (hfv.operands hin')) ?_⟩)
   rintro a' w' ⟨H',β',u,rfl,q1,q2,_,q3⟩
   exact ⟨hbase, .inr (.inr ⟨by rw [hlisted',if_pos rfl],H',β',q1,hslot fB (noI LB) ([],sB) H' β' u hgB q2 q3⟩)⟩
  ·have hcase2:c= .af∨c= .fr∨c= .fl∨c= .ff:=by
    cases c with
    |af=>exact .inl rfl
    |fr=>exact .inr (.inl rfl)
    |fl=>exact .inr (.inr (.inl rfl))
    |ff=>exact .inr (.inr (.inr rfl))
    |mu=>exact absurd hcls1.1 hip
    |st=>exact absurd hcls1.1 hip2
    |bf=>
     have:=Cr hdown' 9 p i hcls1.1 hpy
     rw [hunl'] at this;cases this
   exact fin _ (cas fB LB sB hB H β hLB (fok.b hcase2) hsim hfv _ fun a' w' ⟨H',β',k1,k2⟩=>⟨hbase, .inr (.inl ⟨by rw [keep p (fun e=>hip e.symm)];exact hpy,by rw [keep p2 (fun e=>hip2 e.symm)];exact hpn2,H',β',k1,k2⟩)⟩)
 ·have hip2:i≠p2:=fun e=>by subst e;rw [hunl'] at hpy2;cases hpy2
  have hnw:C1 ops 9 p2 i=true→False:=fun h=>by
   have:=Cr hdown' 9 p2 i h hpy2
   rw [hunl'] at this;cases this
  have hcase2:c= .fl∨c= .ff:=by
   cases c with
   |fl=>exact .inl rfl
   |ff=>exact .inr rfl
   |af=>exact (hnw hcls1.2).elim
   |fr=>exact (hnw hcls1).elim
   |mu=>exact (hnw hcls1.2).elim
   |st=>exact absurd hcls1.1 hip2
   |bf=>exact (hnw hcls1.2).elim
  exact fin _ (cas fB LB sB hC H β hLB (fok.l hcase2) hsim hfv _ fun a' w' ⟨H',β',k1,k2⟩=>⟨hbase, .inr (.inr ⟨by rw [keep p2 (fun e=>hip2 e.symm)];exact hpy2,H',β',k1,k2⟩)⟩)
theorem Aj6 {f0:Fr} {l:List Oper} {L:List (List Nat × S)} {m:Nat}:∀k,A5 f0 l L (fun j=>(Array.replicate m false).getD j false) k=f0:=by
 intro k
 induction k with
 |zero=>rfl
 |succ k ih=>
  unfold A5
  cases l[k]? with
  |none=>exact ih
  |some o=>
   cases L[k]? with
   |none=>exact ih
   |some q=>
    have hz:(Array.replicate m false).getD k false=false:=by rw [Array.getD_eq_getD_getElem?,Array.getElem?_replicate];split<;>rfl
    simp only
    rw [hz,cond_false]
    exact ih
theorem Aoa {P:Program} {n id:Nat} {pre suf:List Oper} {ops:Array Oper} {K:Cq} {f f':Fr} {h hB hC:Xh} {κ:S→S} {C:List C3} {LA LB:List S} (p p2:Nat) (hopsE:ops=(pre++suf).toArray) (hne:0<suf.length) (hm:P.follows .mixedOrders=true) (hin:pre.all (inN n)=true) (hin2:suf.all (inN n)=true)
  (hreg:Jd ops pre=true) (hS:Om ops pre.length=true) (hc:ChF P n ops κ h hB hC pre f (fun t=>κ (f t)) C LA LB f') (hp:C[p]? =some .mu) (hp2:C[p2]? =some .st) (hcls:Ag2 ops p p2 C=true) (hk:XL P n ops suf K f' hC):XW P n (.region id ops true) K f h:=by
 have hops:∀j,j<pre.length→ops[j]? =pre[j]? :=fun j hj=>by rw [hopsE];simp [List.getElem?_append_left hj]
 have hops2:∀j,suf[j]? =ops[pre.length+j]? :=fun j=>by rw [hopsE,List.getElem?_toArray,List.getElem?_append_right (by omega),Nat.add_sub_cancel_left]
 have hsize:ops.size=pre.length+suf.length:=by rw [hopsE];simp
 intro E H β a w hs hf
 obtain ⟨k1,k2,k3,k8,k10⟩:=hc.ok
 have hpl2:p2<pre.length:=by rw [←k1];exact (List.getElem?_eq_some_iff.1 hp2).1
 have hz:∀k,(Array.replicate ops.size false).getD k false=false:=fun k=>by
  rw [Array.getD_eq_getD_getElem?,Array.getElem?_replicate];split<;>rfl
 refine Lf (I:=And n ops pre p p2 f (fun t=>κ (f t)) h hB hC LA LB E) pre.length suf hm hops2 hsize hne hS ⟨⟨by simp,fun j o e _ hj=>(by rw [hz] at hj;cases hj),fun k _=>hz k⟩, .inl ⟨hz p,hz p2,H,β,hs.drew,by rw [Aj6];exact hf⟩⟩ (fun _ _ _ hI=>hI.1) ?_ ?_
 ·intro listed a w hI i hi hip
  exact Aje hops hin hreg (fun _=>rfl) k1 k2 k3 k8 hp hp2 hcls hI hi hip
 ·rintro listed a w ⟨_,hcase⟩ hall
  rcases hcase with ⟨_,hpn,_⟩|⟨_,hpn,_⟩|⟨_,H,β,hsim,hfv⟩
  ·rw [hall p2 hpl2] at hpn;cases hpn
  ·rw [hall p2 hpl2] at hpn;cases hpn
  ·refine hk hin2 E H β a w hsim ?_
   rw [Tr hall pre.length (Nat.le_refl _),k10] at hfv
   exact hfv
def ChFK (P:Program) (n:Nat) (ops:Array Oper) (κ:S→S) (hA hB hC:Xh) (rest:List Oper) (fA fB:Fr) (acc:List C3) (G:List C3→Fr→Prop):Prop:=∃C LA LB f',ChF P n ops κ hA hB hC rest fA fB C LA LB f'∧G (acc++C) f'
section
variable {P:Program} {n:Nat} {ops:Array Oper} {κ:S→S} {hA hB hC:Xh} {rest:List Oper} {fA fB:Fr} {o:Oper} {s s':S} {acc:List C3} {G:List C3→Fr→Prop}
theorem ChFK.nil (hg:G acc fB):ChFK P n ops κ hA hB hC [] fA fB acc G:=⟨[], [], [],fB, .nil _ _,by simpa using hg⟩
theorem ChFK.step {c:C3} (hok:FOK P n ops κ hA hB hC o fA fB c s s') (hr:ChFK P n ops κ hA hB hC rest (A9 fA o.dst s) (A9 fB o.dst s') (acc++ [c]) G):ChFK P n ops κ hA hB hC (o::rest) fA fB acc G:=by
 obtain ⟨C,LA,LB,f',k1,k2⟩:=hr
 refine ⟨_,_,_,f', .step hok k1, ?_⟩
 rw [List.append_assoc] at k2
 exact k2
theorem J1 {f:Fr} {h:Xh} (hw:Bi ops f n o.guard=some true) (hc:CStep P o f h [] s h):OpF P n ops o f h s:= .inl ⟨hw,by obtain ⟨_,_,k⟩:=hc;exact k h (HLe.refl _)⟩
theorem ChFK.ff (hw:Bi ops fA n o.guard=some true) (hw':Bi ops fB n o.guard=some true) (hc:CStep P o fA hA [] s hA) (hc':CStep P o fB hB [] s' hB) (hc2:CStep P o fB hC [] s' hC) (hk:κ s=s') (hr:ChFK P n ops κ hA hB hC rest (A9 fA o.dst s) (A9 fB o.dst s') (acc++ [.ff]) G):ChFK P n ops κ hA hB hC (o::rest) fA fB acc G:=
 .step ⟨fun _=>⟨J1 hw hc,hk.symm⟩,fun _=>J1 hw' hc',fun _=>J1 hw' hc2,fun e=>absurd e (by decide),fun e=>absurd e (by decide)⟩ hr
theorem ChFK.mus (hw:Bi ops fA n o.guard=some true) (hκ:κ=fun s=>s) (hc:∀f',(∀x∈o.op.operands,ev f' x=ev fA x)→Step P n o f' hA s' f' hB) (hr:ChFK P n ops κ hA hB hC rest (A9 fA o.dst .any) (A9 fB o.dst s') (acc++ [.mu]) G):ChFK P n ops κ hA hB hC (o::rest) fA fB acc G:=
 .step ⟨fun e => absurd e (by decide), fun e => absurd e (by decide), fun e => absurd e (by decide), fun _ => ⟨hw, fun f' he E H β a w hs hf hop => Do (hc f' he E H β a w hs hf hop) (by
  rintro a' w' ⟨H',β',u,e,k1,k2,k3⟩
  subst hκ
  exact ⟨H', β', u, e, k1, k2, .inl rfl, k3⟩)⟩, fun e => absurd e (by decide)⟩ hr
theorem ChFK.bf (hw:Bi ops fA n o.guard=some true) (hc:CStep P o fA hA [] s hA) (hk:κ s=s') (hr:ChFK P n ops κ hA hB hC rest (A9 fA o.dst s) (A9 fB o.dst s') (acc++ [.bf]) G):ChFK P n ops κ hA hB hC (o::rest) fA fB acc G:=
 .step ⟨fun _=>⟨J1 hw hc,hk.symm⟩,fun e=>absurd e (by decide),fun e=>absurd e (by decide),fun e=>absurd e (by decide),fun e=>absurd e (by decide)⟩ hr
theorem ChFK.fr (hw:Bi ops fA n o.guard=some true) (hw':Bi ops fB n o.guard=some true) (hc:CStep P o fA hA [] s hA) (hc':CStep P o fB hB [] s' hB) (hk:κ s=s') (hr:ChFK P n ops κ hA hB hC rest (A9 fA o.dst s) (A9 fB o.dst s') (acc++ [.fr]) G):ChFK P n ops κ hA hB hC (o::rest) fA fB acc G:=
 .step ⟨fun _=>⟨J1 hw hc,hk.symm⟩,fun _=>J1 hw' hc',fun e=>absurd e (by decide),fun e=>absurd e (by decide),fun e=>absurd e (by decide)⟩ hr
theorem ChFK.af (hw':Bi ops fB n o.guard=some true) (hc':CStep P o fB hB [] s' hB) (hr:ChFK P n ops κ hA hB hC rest (A9 fA o.dst .any) (A9 fB o.dst s') (acc++ [.af]) G):ChFK P n ops κ hA hB hC (o::rest) fA fB acc G:=
 .step ⟨fun e=>absurd e (by decide),fun _=>J1 hw' hc',fun e=>absurd e (by decide),fun e=>absurd e (by decide),fun e=>absurd e (by decide)⟩ hr
theorem ChFK.fl (hw':Bi ops fB n o.guard=some true) (hc':CStep P o fB hB [] s' hB) (hc2:CStep P o fB hC [] s' hC) (hr:ChFK P n ops κ hA hB hC rest (A9 fA o.dst .any) (A9 fB o.dst s') (acc++ [.fl]) G):ChFK P n ops κ hA hB hC (o::rest) fA fB acc G:=
 .step ⟨fun e=>absurd e (by decide),fun _=>J1 hw' hc',fun _=>J1 hw' hc2,fun e=>absurd e (by decide),fun e=>absurd e (by decide)⟩ hr
theorem ChFK.mu (hw:Bi ops fA n o.guard=some true) (hc:∀hF,HLe hA hF→K3 P n o fA hF 987654 s' κ (hF.by (fun k _=>hB k))) (hr:ChFK P n ops κ hA hB hC rest (A9 fA o.dst .any) (A9 fB o.dst s') (acc++ [.mu]) G):ChFK P n ops κ hA hB hC (o::rest) fA fB acc G:=
 .step ⟨fun e=>absurd e (by decide),fun e=>absurd e (by decide),fun e=>absurd e (by decide),fun _=>⟨hw,hc hA (HLe.refl _)⟩,fun e=>absurd e (by decide)⟩ hr
theorem ChFK.st (hw:Bi ops fB n o.guard=some true) (hc:∀f',(∀x∈o.op.operands,ev f' x=ev fB x)→Step P n o f' hB s' f' hC) (hr:ChFK P n ops κ hA hB hC rest (A9 fA o.dst .any) (A9 fB o.dst s') (acc++ [.st]) G):ChFK P n ops κ hA hB hC (o::rest) fA fB acc G:=
 .step ⟨fun e => absurd e (by decide), fun e => absurd e (by decide), fun e => absurd e (by decide), fun e => absurd e (by decide), fun _ => ⟨hw, fun f' he E H β a w hs hf hop => Do (hc f' he E H β a w hs hf hop) (by
  rintro a' w' ⟨H',β',u,e,k1,k2,k3⟩
  exact ⟨H', β', u, e, k1, k2, .inl rfl, k3⟩)⟩⟩ hr
end
theorem Zq {P:Program} {n:Nat} {o:Oper} {f:Fr} {h hC:Xh} {t m:Nat} {x y:Operand} {i off:Nat} {l cs l':List S} (ho:o.op= .store t x y) (hx:ev f x= .ptr i 0 off) (hi:h i=some (.box l)) (hc:Dn h (ev f y)=some cs) (hz:sizeB P t m=true) (hm:cs.length=m) (hoff:off+m≤l.length) (hl:sets l off cs=l') (hh:HSub (h.set i (.box l')) hC):
  ∀f',(∀x∈o.op.operands,ev f' x=ev f x)→Step P n o f' h (.d (.v undef)) f' hC:=fun f' he E H β a w hs hf hop=>by
 have e1:=he x (by rw [ho];simp [Op.operands])
 have e2:=he y (by rw [ho];simp [Op.operands])
 refine Do (Af (n:=n) (f:=f') ho (by rw [e1];exact hx) hi (by rw [e2];exact hc) hz hm hoff hl E H β a w hs hf hop) ?_
 rintro a' w' ⟨H',β',u,e,k1,k2,k3⟩
 exact ⟨H',β',u,e,k1.drop hh,k2,k3⟩
theorem Zp {P:Program} {n:Nat} {o:Oper} {f:Fr} {h hC:Xh} {t m:Nat} {x y:Operand} {i k off:Nat} {ty:TypeId} {sz:Nat} {ls:List Nat} (ls':List Nat) {l l':List (List T)} {z:List T} {cs:List S} (ho:o.op= .store t x y) (hx:ev f x= .ptr i k off) (hi:h i=some (.tree ty sz ls l)) (hk:l[k]? =some z) (hc:Dn h (ev f y)=some cs)
  (hz:sizeB P t m=true) (hm:cs.length=m) (hoff:off+m≤z.length) (hsub:ls.all (fun j=>By j ls')=true) (hcs:cs.all (fun d=>d.toT.inn ls')=true) (hl':l.set k (sets z off (cs.map S.toT))=l') (hh:HSub (h.set i (.tree ty sz ls' l')) hC):
  ∀f',(∀x∈o.op.operands,ev f' x=ev f x)→Step P n o f' h (.d (.v undef)) f' hC:=fun f' he E H β a w hs hf hop=>by
 have e1:=he x (by rw [ho];simp [Op.operands])
 have e2:=he y (by rw [ho];simp [Op.operands])
 refine Do (Lg (n:=n) (f:=f') ls' ho (by rw [e1];exact hx) hi hk (by rw [e2];exact hc) hz hm hoff hsub hcs hl' E H β a w hs hf hop) ?_
 rintro a' w' ⟨H',β',u,e,k1,k2,k3⟩
 exact ⟨H',β',u,e,k1.drop hh,k2,k3⟩
theorem Ad8 {P:Program} {n id:Nat} {l:List Oper} {K:Cq} {f:Fr} {h:Xh} (p p2 q:Nat) (κ:S→S) (hB hC:Xh) (hm:P.follows .mixedOrders=true) (hin:l.all (inN n)=true) (hreg:Jd l.toArray (l.take q)=true) (hS:(Nat.blt q l.length && Om l.toArray q)=true)
  (hc:ChFK P n l.toArray κ h hB hC (l.take q) f (fun t=>κ (f t)) [] (fun C f'=>(C[p]? =some .mu∧C[p2]? =some .st∧Ag2 l.toArray p p2 C=true)∧XL P n l.toArray (l.drop q) K f' hC)):XW P n (.region id l.toArray true) K f h:=by
 obtain ⟨C,LA,LB,f',k1,⟨k2,k3,k4⟩,k5⟩:=hc
 rw [Bool.and_eq_true] at hS
 have hp:=Es hS.1
 rw [←List.take_append_drop q l,List.all_append,Bool.and_eq_true] at hin
 exact Aoa p p2 (by rw [List.take_append_drop]) (by rw [List.length_drop];omega) hm hin.1 hin.2 hreg (by rw [List.length_take,Nat.min_eq_left (by omega)];exact hS.2) k1 k2 k3 k4 k5
end Go.Proofs.YtaafemnkamfgnaaGreat
namespace Go.Proofs.YtaafemnkamfgnaaGreat
open Go.RowKit
theorem K7 {P:Program} {o:Oper} {e:Operand→S} {h:Xh} {t sz n:Nat} {x y:Operand} {α:Type} {l:List α} {g:α→List D} (ho:o.op= .slice t x none (some y) none) (hx:e x= .d (.sl sz (l.map g))) (hy:e y= .d (.v (.int .i64 (min (l.length:Int) (n:Int))))) (hf:elB P t sz=true):Be P o e h (.d (.sl sz ((l.take n).map g))):=by
 have q:=I3 (h:=h) (a:=0) (b:=min l.length n) ho hx hf .no (Bd.ati hy (by omega)) (Nat.zero_le _) (Nat.min_le_left _ _)
 refine Ae q ?_
 rw [List.drop_zero,Nat.min_comm, ←List.take_take,List.take_length]
theorem U9 {P:Program} {o:Oper} {e:Operand→S} {h:Xh} {t n:Nat} {x y:Operand} {l:List UInt8} (ho:o.op= .slice t x none (some y) none) (hx:e x= .d (.v (.string ⟨l.toArray⟩))) (hy:e y= .d (.v (.int .i64 (min (l.length:Int) (n:Int))))) (hu:P.underlying t=some .string):Be P o e h (.d (.v (.string ⟨(l.take n).toArray⟩))):=fun E H β ρ w _ hop=>by
 have g:=hop x (by rw [ho];simp [Op.operands])
 have g2:=hop y (by rw [ho];simp [Op.operands])
 rw [hx] at g
 rw [hy] at g2
 refine ⟨_, ?_, .d (.v (.string ⟨(l.take n).toArray⟩))⟩
 have hm:(min (l.length:Int) (n:Int))=((min l.length n:Nat):Int):=by omega
 have hsz:(ByteArray.mk l.toArray).size=l.length:=by simp [ByteArray.size]
 have hlt:(0:Int)≤((min l.length n:Nat):Int)∧((min l.length n:Nat):Int)≤(l.length:Int):=⟨by omega,by omega⟩
 have hex:(ByteArray.mk l.toArray).extract 0 (min l.length n)=⟨(l.take n).toArray⟩:=by
  apply ByteArray.ext
  rw [ByteArray.data_extract]
  simp [List.take_take]
  omega
 unfold execOp
 simp only [ho,De g,De g2,hm,Instr.sliceAt,Option.map_none,Option.map_some,Sem.run_bind,run_underlying hu,Result.andThen_ok,Instr.slice,Instr.sliceBounds,Instr.sliceBound,hsz,Sem.run_pure,Option.isSome_none,Bool.false_eq_true,if_false,asInt,asIntOf,hlt,and_self,if_true,Int.toNat_natCast,hex]
theorem Sim.subcut {E:Env} {H:Hp} {β:Bt} {h:Xh} {w:World} (s:Sim E H β h w) {i b k m:Nat} {ty:TypeId} {sz:Nat} {r:List (List D)} {l:List S} (hb:h b=some (.box l)) (hk:l[k]? =some (.sub i 0 m)) (hi:h i=some (.row ty sz r)) (hib:i≠b):
  ∃β',Sim E H β' (((h.kill i).set i (.row ty sz (r.take m))).set b (.box ((S.killL i l).set k (.own i)))) w∧∀{n:Nat} {a:Act} {f:Fr},FV n H β a f→FV n H β' a (D1 f i):=by
 have keep:∀Lo,((h.kill i).set i (.row ty sz (r.take m))) b=some (.box (S.killL i l))∧(β.set i Lo) b=β b:=fun Lo=>⟨by rw [Xh.set_ne _ _ hib,Xh.kill_ne _ hib,hb];rfl,Bt.set_ne _ _ hib⟩
 cases hL:β b with
 |none=>
  have s2:Sim E H (β.set i none) ((h.kill i).set i (.row ty sz (r.take m))) w:=(s.kill i none).blind (Bt.set_same _ _ _) rfl
  exact ⟨β.set i none,s2.blind (by rw [(keep none).2,hL]) rfl,fun hf=>hf.kill i none⟩
 |some Lb=>
  obtain ⟨h1,h0,us,t,h2,h3,h4⟩:=s.obj b _ Lb hb hL
  have hku:k<us.size:=by have:=(List.getElem?_eq_some_iff.1 hk).1;omega
  obtain ⟨L,A,n,c,hLi,hv,_,hmn,hu⟩:=Xv (h4 k us[k] _ (Array.getElem?_eq_getElem hku) hk)
  have hu':us[k]= .slice A m c:=by
   rw [hu,Nat.zero_mul,Nat.sub_zero,Nat.sub_zero]
   split
   ·rfl
   ·rename_i hc
    obtain ⟨_,_,_,_,hown,_,_⟩:=s.obj i _ L hi hLi
    rcases hown.2 with ⟨e1,_⟩|⟨g,cap,cur,e1,_⟩
    ·rw [hv] at e1;injection e1 with q1 q2 q3;subst q1;rfl
    ·rw [hv] at e1;injection e1 with q1 q2 q3;subst q1;simp [Go.WideShapes.add_plain]
  have hrn:n=r.length:=by
   obtain ⟨_,_,_,_,hown,_,_⟩:=s.obj i _ L hi hLi
   rcases hown.2 with ⟨e1,e2⟩|⟨g,cap,cur,e1,_⟩
   ·rw [hv] at e1;injection e1 with q1 q2 q3;omega
   ·rw [hv] at e1;injection e1 with q1 q2 q3
  subst hrn
  have s2:=s.cutR hi hLi hv hmn
  refine ⟨_,s2.turn (o:= .box (S.killL i l)) (keep (some ⟨.slice A m c,L.b,sz,noB⟩)).1 (by rw [(keep (some ⟨.slice A m c,L.b,sz,noB⟩)).2,hL]) rfl s2.below (fun _ _=>rfl) ⟨h1,by rw [List.length_set,S.killL_length];exact h0,us,t,h2,by rw [List.length_set,S.killL_length];exact h3,fun j u q hj hq=> ?_⟩,fun hf=>hf.kill i _⟩
  by_cases e:k=j
  ·subst e
   rw [List.getElem?_set_self (by rw [S.killL_length];omega)] at hq
   cases hq
   rw [Array.getElem?_eq_getElem hku] at hj
   cases hj
   rw [hu']
   exact VS.own (L:=⟨.slice A m c,L.b,sz,noB⟩) (Bt.set_same _ _ _)
  ·rw [List.getElem?_set_ne e,S.killL_get] at hq
   cases hl:l[j]? with
   |none=>rw [hl] at hq;cases hq
   |some q'=>rw [hl] at hq;cases hq;exact (h4 j u q' hj hl).kill i _
theorem Ahe {P:Program} {n:Nat} {c:Code} {K:Cq} {f:Fr} {h:Xh} (i b k m:Nat) {ty:TypeId} {sz:Nat} {r r':List (List D)} {l l':List S} (hb:h b=some (.box l)) (hk:l[k]? =some (.sub i 0 m)) (hi:h i=some (.row ty sz r)) (hib:i≠b) (hr:r.take m=r') (hl:(S.killL i l).set k (.own i)=l')
  (hc:XW P n c K (D1 f i) (((h.kill i).set i (.row ty sz r')).set b (.box l'))):XW P n c K f h:=fun E H β a w hs hf=>by
 subst hr hl
 obtain ⟨β',s2,f2⟩:=hs.subcut hb hk hi hib
 exact hc E H β' a w s2 (f2 hf)
theorem Ya {P:Program} {n:Nat} {o:Oper} {f:Fr} {h:Xh} {t:Nat} {x y:Operand} {i j p q off:Nat} {l l':List S} (ho:o.op= .store t x y) (hx:ev f x= .ptr i 0 off) (hi:h i=some (.box l)) (hy:ev f y= .sub j p q) (hz:sizeB P t 1=true) (hoff:off+1≤l.length) (hl:sets l off [.sub j p q]=l'):
  Step P n o f h (.d (.v undef)) f (h.set i (.box l')):=by
 subst hl
 intro E H β a w hs hf hop
 have g1:=hop x (by rw [ho];simp [Op.operands])
 have g2:=hop y (by rw [ho];simp [Op.operands])
 rw [hx] at g1
 rw [hy] at g2
 obtain ⟨L,hL,hp⟩:=Fx g1
 rw [Nat.zero_mul,Nat.zero_add] at hp
 have h1:(a.eval y).oneCell'=true:=by obtain ⟨_,_,_,_,_,_,_,_,hu⟩:=Xv g2;rw [hu];rfl
 have hcs:=W7 h1
 obtain ⟨w', r1, r2⟩ := Jt (P := P) (off := off) hL (a.eval y).cells.toList [.sub j p q] 0 l h w hs hi (by rw [hcs]; rfl) (fun k v s hj hs' => by
  rw [hcs] at hj
  match k with
  |0=>cases hj;cases hs';exact ⟨g2,h1⟩
  | k + 1 => simp at hs') (by rw [hcs]; simpa using hoff)
 have hr:(execOp a.eval o).run P w= .ok .skip w':=by
  have hsz:(a.eval y).cells.size=1:=by rw [hcs];rfl
  unfold execOp
  simp only [ho,Instr.storeAt,hp,Instr.sureAddr,Sem.run_bind,Sem.run_pure,Result.andThen_ok,storeVar,sizeB.run hz,hsz,ne_eq,not_true_eq_false,if_false,r1]
 unfold Oper.wp
 rw [hr]
 exact ⟨H,β,_,rfl,r2,hf, .d (.v _)⟩
structure Ev.room (e:Ev):Prop where
 heads:e.heads.length*40≤140737488355328
 graces:e.graces.length*40≤140737488355328
 lyr:e.lyr.length*24≤140737488355328
def Py (s:Sy):Sy:=⟨s.text.take 30,s.link⟩
def Sv (e:Ev):Ev:={e with heads:=e.heads.take 5,graces:=e.graces.take 4,lyr:=(e.lyr.take 5).map Py}
def shSys (l:List Sy) (k:Nat):List Sy:=(l.take k).map Py++l.drop k
theorem Acy (l:List Hd) (h:l.length*40≤140737488355328):XS Tryz.prog 140 [.sl 5 (l.map Hd.c)] (.own 5) [(5, .row 200 5 ((l).map Hd.c))]:=by
 refine Dx Qv Tryz.func140 R R lb (by kernel_rfl) (by kernel_rfl)<|zr<|za R R<|zn<|zs<|zr<|zm R R<|?_
 refine XL.eqnil R R R Tryz.underlying55 (fun hn4=> ?_) ?_
 refine zn<|Aw (by kernel_rfl) R<|zr<|za R R<|zn<|Dp 5 2 200 5 R<|zt<|?_
 exact ⟨Ci R (RVS.tmp R R),HSub.cons (by rw [hn4];rfl) (HSub.nil)⟩
 refine zn<|A3 (by kernel_rfl) R<|zi<|zr<|XL.step R (Bj 5 R Tryz.underlying55 X5 Sq R R (by omega) (by omega))<|zm R R<|XL.step R (A6 R Ajz (.own R) (Src.sl (by omega)) (by unfold maxLen;simp;omega) (by simp;omega))<|zp (At R (by conv=>lhs;whnf))<|?_
 refine zn<|zt<|?_
 exact ⟨Ci R (RVS.tmp R R),HSub.cons (R) (HSub.nil)⟩
theorem Ac0 (l:List Gr) (h:l.length*40≤140737488355328):XS Tryz.prog 141 [.sl 5 (l.map Gr.c)] (.own 5) [(5, .row 203 5 ((l).map Gr.c))]:=by
 refine Dx Qu Tryz.func141 R R lb (by kernel_rfl) (by kernel_rfl)<|zr<|za R R<|zn<|zs<|zr<|zm R R<|?_
 refine XL.eqnil R R R Tryz.underlying56 (fun hn4=> ?_) ?_
 refine zn<|Aw (by kernel_rfl) R<|zr<|za R R<|zn<|Dp 5 2 203 5 R<|zt<|?_
 exact ⟨Ci R (RVS.tmp R R),HSub.cons (by rw [hn4];rfl) (HSub.nil)⟩
 refine zn<|A3 (by kernel_rfl) R<|zi<|zr<|XL.step R (Bj 5 R Tryz.underlying56 X4 Sp R R (by omega) (by omega))<|zm R R<|XL.step R (A6 R Ajy (.own R) (Src.sl (by omega)) (by unfold maxLen;simp;omega) (by simp;omega))<|zp (At R (by conv=>lhs;whnf))<|?_
 refine zn<|zt<|?_
 exact ⟨Ci R (RVS.tmp R R),HSub.cons (R) (HSub.nil)⟩
theorem Acx (l:List Sy) (h:l.length*24≤140737488355328):XS Tryz.prog 142 [.sl 2 (l.map Sy.c)] (.own 5) [(5, .row 171 2 ((l).map Sy.c))]:=by
 refine Dx Qt Tryz.func142 R R lb (by kernel_rfl) (by kernel_rfl)<|zr<|za R R<|zn<|zs<|zr<|zm R R<|?_
 refine XL.eqnil R R R Tryz.underlying57 (fun hn4=> ?_) ?_
 refine zn<|Aw (by kernel_rfl) R<|zr<|za R R<|zn<|Dp 5 2 171 2 R<|zt<|?_
 exact ⟨Ci R (RVS.tmp R R),HSub.cons (by rw [hn4];rfl) (HSub.nil)⟩
 refine zn<|A3 (by kernel_rfl) R<|zi<|zr<|XL.step R (Bj 5 R Tryz.underlying57 X6 Oj R R (by omega) (by omega))<|zm R R<|XL.step R (A6 R Ajx (.own R) (Src.sl (by omega)) (by unfold maxLen;simp;omega) (by simp;omega))<|zp (At R (by conv=>lhs;whnf))<|?_
 refine zn<|zt<|?_
 exact ⟨Ci R (RVS.tmp R R),HSub.cons (R) (HSub.nil)⟩
theorem Aj2 (e:Ev) (h:e.room):XS Tryz.prog 111 [.agg (Ev.c e)] (.agg [.d (dI e.site), .d (dI e.num), .d (dI e.kind), .d (dI e.v.log), .d (dI e.v.dots), .own 7501, .own 7502, .d (dI e.art), .d (dI e.orn), .d (dI e.dyn), .own 7503, .d (dI e.stem), .d (dI e.beam)]) [(7501, .row 200 5 ((e.heads).map Hd.c)),(7502, .row 203 5 ((e.graces).map Gr.c)),(7503, .row 171 2 ((e.lyr).map Sy.c))]:=by
 have h1:=h.heads
 have h2:=h.graces
 have h3:=h.lyr
 refine Dx Qx Tryz.func111 R R lb (by kernel_rfl) (by kernel_rfl)<|zr<|XL.step R (Ar 1 (l:= [.d (dI e.site), .d (dI e.num), .d (dI e.kind), .d (dI e.v.log), .d (dI e.v.dots), .d (.sl 5 (e.heads.map Hd.c)), .d (.sl 5 (e.graces.map Gr.c)), .d (dI e.art), .d (dI e.orn), .d (dI e.dyn), .d (.sl 2 (e.lyr.map Sy.c)), .d (dI e.stem), .d (dI e.beam)]) R R (by kernel_rfl))<|?_
 refine XL.step R (Al 2 (l:= [.d (dI 0), .d (dI 0), .d (dI 0), .d (dI 0), .d (dI 0), .d (.v (.slice none 0 0)), .d (.v (.slice none 0 0)), .d (dI 0), .d (dI 0), .d (dI 0), .d (.v (.slice none 0 0)), .d (dI 0), .d (dI 0)]) R B9 (by kernel_rfl))<|zn<|zs<|Cm 10 [7501,7502,7503] (by kernel_rfl) (by kernel_rfl) (by kernel_rfl) (by kernel_rfl) (by decide)<|yp (Aa R R Cy)<|?_
 refine yp (Ab R R G9 R R)<|ChK.cons R (CStep.callS R ((Acy _ (by assumption)).lab 7501) R (Mx (by kernel_rfl)))<|yp (Aa R R F1)<|yp (Ab R R Nh R R)<|ChK.cons R (CStep.callS R ((Ac0 _ (by assumption)).lab 7502) R (Mx (by kernel_rfl)))<|yp (Aa R R Ef)<|yp (Ab R R I8 R R)<|?_
 refine ChK.cons R (CStep.callS R ((Acx _ (by assumption)).lab 7503) R (Mx (by kernel_rfl)))<|yp (Aa R R Cy)<|?_
 refine ChK.nil ⟨by kernel_rfl, ?_⟩
 refine XL.step R (Af (l':= [.d (dI e.site), .d (dI e.num), .d (dI e.kind), .d (dI e.v.log), .d (dI e.v.dots), .own 7501, .d (.sl 5 (e.graces.map Gr.c)), .d (dI e.art), .d (dI e.orn), .d (dI e.dyn), .d (.sl 2 (e.lyr.map Sy.c)), .d (dI e.stem), .d (dI e.beam)]) R R R R Nb R lb (by kernel_rfl))<|zp (Aa R R F1)<|?_
 refine XL.step R (Af (l':= [.d (dI e.site), .d (dI e.num), .d (dI e.kind), .d (dI e.v.log), .d (dI e.v.dots), .own 7501, .own 7502, .d (dI e.art), .d (dI e.orn), .d (dI e.dyn), .d (.sl 2 (e.lyr.map Sy.c)), .d (dI e.stem), .d (dI e.beam)]) R R R R Afv R lb (by kernel_rfl))<|zp (Aa R R Ef)<|?_
 refine XL.step R (Af (l':= [.d (dI e.site), .d (dI e.num), .d (dI e.kind), .d (dI e.v.log), .d (dI e.v.dots), .own 7501, .own 7502, .d (dI e.art), .d (dI e.orn), .d (dI e.dyn), .own 7503, .d (dI e.stem), .d (dI e.beam)]) R R R R Afu R lb (by kernel_rfl))<|znr<|zp (Ac (Ad R R Bw R lb))<|?_
 refine XL.step R (Af (l':= [.d (dI e.site), .d (dI e.num), .d (dI e.kind), .d (dI e.v.log), .d (dI e.v.dots), .own 7501, .own 7502, .d (dI e.art), .d (dI e.orn), .d (dI e.dyn), .own 7503, .d (dI e.stem), .d (dI e.beam)]) R R R R C0 R lb (by kernel_rfl))<|zn<|zt<|?_
 exact ⟨Ci R (RVS.eq (RVS.cells (i:=2) R R R Bw lb) R),HSub.cons (R) (HSub.cons (R) (HSub.cons (R) (HSub.nil)))⟩
theorem Xd (e:Ev) (h:e.room):XC Tryz.prog 83 [.agg (Ev.c e)] (fun r=>r= .agg (Ev.c (Sv e))):=by
 refine Ak Ac9 Tryz.func83 R R lb<|zr<|XL.step R (Ar 1 (l:= [.d (dI e.site), .d (dI e.num), .d (dI e.kind), .d (dI e.v.log), .d (dI e.v.dots), .d (.sl 5 (e.heads.map Hd.c)), .d (.sl 5 (e.graces.map Gr.c)), .d (dI e.art), .d (dI e.orn), .d (dI e.dyn), .d (.sl 2 (e.lyr.map Sy.c)), .d (dI e.stem), .d (dI e.beam)]) R R (by kernel_rfl))<|?_
 refine XL.step R (Al 2 (l:= [.d (dI 0), .d (dI 0), .d (dI 0), .d (dI 0), .d (dI 0), .d (.v (.slice none 0 0)), .d (.v (.slice none 0 0)), .d (dI 0), .d (dI 0), .d (dI 0), .d (.v (.slice none 0 0)), .d (dI 0), .d (dI 0)]) R B9 (by kernel_rfl))<|znr<|zp (Ae (s':= .d (.agg (Ev.c e))) (Ac (Ad R R Bw R lb)) (by kernel_rfl))<|XL.callS R R (Aj2 _ (by assumption)) R<|?_
 refine XL.freeze (i:=7501) R<|XL.freeze (i:=7502) R<|XL.step R (Af (l':= [.d (dI e.site), .d (dI e.num), .d (dI e.kind), .d (dI e.v.log), .d (dI e.v.dots), .d (.sl 5 (e.heads.map Hd.c)), .d (.sl 5 (e.graces.map Gr.c)), .d (dI e.art), .d (dI e.orn), .d (dI e.dyn), .own 7503, .d (dI e.stem), .d (dI e.beam)]) R R R R C0 R lb (by kernel_rfl))<|zn<|zs<|?_
 refine Ad8 22 24 25 (fun s=>s) (mkH [(1, .box [.d (dI e.site), .d (dI e.num), .d (dI e.kind), .d (dI e.v.log), .d (dI e.v.dots), .d (.sl 5 ((e.heads.take 5).map Hd.c)), .d (.sl 5 (e.graces.map Gr.c)), .d (dI e.art), .d (dI e.orn), .d (dI e.dyn), .own 7503, .d (dI e.stem), .d (dI e.beam)]),(2, .box [.d (dI 0), .d (dI 0), .d (dI 0), .d (dI 0), .d (dI 0), .d (.v (.slice none 0 0)), .d (.v (.slice none 0 0)), .d (dI 0), .d (dI 0), .d (dI 0), .d (.v (.slice none 0 0)), .d (dI 0), .d (dI 0)]),(7503, .row 171 2 ((e.lyr).map Sy.c))]) (mkH [(1, .box [.d (dI e.site), .d (dI e.num), .d (dI e.kind), .d (dI e.v.log), .d (dI e.v.dots), .d (.sl 5 ((e.heads.take 5).map Hd.c)), .d (.sl 5 ((e.graces.take 4).map Gr.c)), .d (dI e.art), .d (dI e.orn), .d (dI e.dyn), .own 7503, .d (dI e.stem), .d (dI e.beam)]),(2, .box [.d (dI 0), .d (dI 0), .d (dI 0), .d (dI 0), .d (dI 0), .d (.v (.slice none 0 0)), .d (.v (.slice none 0 0)), .d (dI 0), .d (dI 0), .d (dI 0), .d (.v (.slice none 0 0)), .d (dI 0), .d (dI 0)]),(7503, .row 171 2 ((e.lyr).map Sy.c))]) (by kernel_rfl) (by kernel_rfl) (by kernel_rfl) (by kernel_rfl)<|?_
 refine ChFK.bf R (CStep.pure (Aa R R Cy)) (by conv=>lhs;whnf)<|?_
 refine ChFK.bf R (CStep.pure (Ab R R G9 R R)) (by conv=>lhs;whnf)<|?_
 refine ChFK.bf R (CStep.pure (Aa R R Cy)) (by conv=>lhs;whnf)<|?_
 refine ChFK.bf R (CStep.pure (Ab R R G9 R R)) (by conv=>lhs;whnf)<|?_
 refine ChFK.bf R (CStep.pure (Mq R R Tryz.underlying55)) (by conv=>lhs;whnf)<|?_
 refine ChFK.bf R (CStep.pure (Fu R R R)) (by conv=>lhs;whnf)<|?_
 refine ChFK.bf R (CStep.pure (K7 R R R Rj)) (by conv=>lhs;whnf)<|?_
 refine ChFK.bf R (CStep.pure (Aa R R F1)) (by conv=>lhs;whnf)<|?_
 refine ChFK.bf R (CStep.pure (Ab R R Nh R R)) (by conv=>lhs;whnf)<|?_
 refine ChFK.bf R (CStep.pure (Aa R R F1)) (by conv=>lhs;whnf)<|?_
 refine ChFK.bf R (CStep.pure (Ab R R Nh R R)) (by conv=>lhs;whnf)<|?_
 refine ChFK.fr R R (CStep.pure (Mq R R Tryz.underlying56)) (CStep.pure (Mq R R Tryz.underlying56)) (by exact rfl)<|ChFK.fr R R (CStep.pure (Fu R R R)) (CStep.pure (Fu R R R)) (by exact rfl)<|ChFK.fr R R (CStep.pure (K7 R R R Up)) (CStep.pure (K7 R R R Up)) (by exact rfl)<|ChFK.bf R (CStep.pure (Aa R R Ef)) (by conv=>lhs;whnf)<|?_
 refine ChFK.bf R (CStep.pure (Ab R R I8 R R)) (by conv=>lhs;whnf)<|?_
 refine ChFK.bf R (CStep.pure (Aa R R Ef)) (by conv=>lhs;whnf)<|?_
 refine ChFK.bf R (CStep.pure (Ab R R I8 R R)) (by conv=>lhs;whnf)<|?_
 refine ChFK.ff R R (CStep.pure (Bz R R R Tryz.underlying57)) (CStep.pure (Bz R R R Tryz.underlying57)) (CStep.pure (Bz R R R Tryz.underlying57)) (by exact rfl)<|ChFK.ff R R (CStep.pure (Fu R R R)) (CStep.pure (Fu R R R)) (CStep.pure (Fu R R R)) (by exact rfl)<|?_
 refine ChFK.ff R R (CStep.pure (K8 R R R Kz Bd.no (Bd.ati R (show _=((min e.lyr.length 5:Nat):Int) by omega)) (Nat.zero_le _) (by rw [List.length_map];omega))) (CStep.pure (K8 rfl rfl rfl Kz Bd.no (Bd.ati rfl (show _=((min e.lyr.length 5:Nat):Int) by omega)) (Nat.zero_le _) (by rw [List.length_map];omega))) (CStep.pure (K8 rfl rfl rfl Kz Bd.no (Bd.ati rfl (show _=((min e.lyr.length 5:Nat):Int) by omega)) (Nat.zero_le _) (by rw [List.length_map];omega))) (by exact rfl)<|?_
 refine ChFK.bf R (CStep.pure (Aa R R Cy)) (by conv=>lhs;whnf)<|?_
 refine ChFK.mus R R (Zq (l':= [.d (dI e.site), .d (dI e.num), .d (dI e.kind), .d (dI e.v.log), .d (dI e.v.dots), .d (.sl 5 ((e.heads.take 5).map Hd.c)), .d (.sl 5 (e.graces.map Gr.c)), .d (dI e.art), .d (dI e.orn), .d (dI e.dyn), .own 7503, .d (dI e.stem), .d (dI e.beam)]) R R R R Nb R lb (by kernel_rfl) (gz ⟨R,R,R,trivial⟩))<|ChFK.af R (CStep.pure (Aa R R F1))<|?_
 refine ChFK.st R (Zq (l':= [.d (dI e.site), .d (dI e.num), .d (dI e.kind), .d (dI e.v.log), .d (dI e.v.dots), .d (.sl 5 ((e.heads.take 5).map Hd.c)), .d (.sl 5 ((e.graces.take 4).map Gr.c)), .d (dI e.art), .d (dI e.orn), .d (dI e.dyn), .own 7503, .d (dI e.stem), .d (dI e.beam)]) R R R R Afv R lb (by kernel_rfl) (gz ⟨R,R,R,trivial⟩))<|?_
 refine ChFK.nil ⟨⟨by kernel_rfl,by kernel_rfl,by kernel_rfl⟩, ?_⟩
 refine zp (Aa R R Ef)<|XL.step R (Ya (l':= [.d (dI e.site), .d (dI e.num), .d (dI e.kind), .d (dI e.v.log), .d (dI e.v.dots), .d (.sl 5 ((e.heads.take 5).map Hd.c)), .d (.sl 5 ((e.graces.take 4).map Gr.c)), .d (dI e.art), .d (dI e.orn), .d (dI e.dyn), .sub 7503 0 (min e.lyr.length 5), .d (dI e.stem), .d (dI e.beam)]) R R R R Afu lb (by kernel_rfl))<|zn<|zs<|zs<|?_
 refine Ahe 7503 1 10 (min e.lyr.length 5) R R R (by decide) (r':=(e.lyr.take 5).map Sy.c) (by rw [←List.map_take,Nat.min_comm, ←List.take_take,List.take_length]) R<|?_
 have hsl:(e.lyr.take 5).length≤5:=by rw [List.length_take];omega
 refine Ag (by kernel_rfl)<|za R R<|zn<|Ah<|?_
 refine Az (α:=Nat) (fun k=>k≤(e.lyr.take 5).length) (fun k=>mkF [(1, .ptr 1 0 0),(2, .ptr 2 0 0),(3, .d (dI k))]) (fun k=>mkH [(1, .box [.d (dI e.site), .d (dI e.num), .d (dI e.kind), .d (dI e.v.log), .d (dI e.v.dots), .d (.sl 5 ((e.heads.take 5).map Hd.c)), .d (.sl 5 ((e.graces.take 4).map Gr.c)), .d (dI e.art), .d (dI e.orn), .d (dI e.dyn), .own 7503, .d (dI e.stem), .d (dI e.beam)]),(2, .box [.d (dI 0), .d (dI 0), .d (dI 0), .d (dI 0), .d (dI 0), .d (.v (.slice none 0 0)), .d (.v (.slice none 0 0)), .d (dI 0), .d (dI 0), .d (dI 0), .d (.v (.slice none 0 0)), .d (dI 0), .d (dI 0)]),(7503, .row 171 2 ((Hg Py (e.lyr.take 5) k).map Sy.c))]) (fun k=>(e.lyr.take 5).length - k) (0) (Nat.zero_le _) ?_ ?_ ?_
 exact fz ⟨sr,sr,sr,trivial⟩
 exact gz ⟨R,R,P1 (O5 _ _),trivial⟩
 intro k hk0
 refine zs<|zr<|zm R R<|zp (Aa R R Ef)<|zp (Ab R R I8 R R)<|zp (Bz R R R Tryz.underlying57)<|zp (Ap R R R)<|zn<|?_
 refine zd R (fun c34=> ?_) (fun c34=> ?_)
 have hml:=Nk Py (e.lyr.take 5) k
 have hkl:k<(e.lyr.take 5).length:=by omega
 obtain ⟨x,hx⟩:=Ax hkl
 have hg:=P8 (f:=Py) hx
 refine zi<|zs<|Ah<|Cm 18 [] (by kernel_rfl) (by kernel_rfl) (by kernel_rfl) (by kernel_rfl) (by decide)<|yp (Aa R R Ef)<|yp (Ab R R I8 R R)<|ym R R<|yp (Aa R R Ef)<|yp (Ab R R I8 R R)<|ym R R<|yp (Cn R R R (R) R Kz (by omega))<|yp (Aa R R G4)<|yp (Io R R Kl R (C7 hg) R)<|yp (Aa R R Ef)<|?_
 refine yp (Ab R R I8 R R)<|ym R R<|yp (Cn R R R (R) R Kz (by omega))<|yp (Aa R R G4)<|yp (Io R R Kl R (C7 hg) R)<|yp (K9 R R Tryz.underlying9)<|yp (Fu R R R)<|yp (U9 R R R Tryz.underlying9)<|?_
 refine ChK.nil ⟨by kernel_rfl, ?_⟩
 refine zp (Cn R R R (R) R Kz (by omega))<|zp (Aa R R G4)<|XL.step R (Fc R R R (C7 hg) R R Ak0 R lb)<|zn<|Ag (by kernel_rfl)<|zm R R<|zp (Am R R R (by omega) (by omega))<|za R R<|zn<|?_
 exact An (k+1) (by omega) (by omega) (fz ⟨sr,sr,sr,trivial⟩) (gz ⟨R,R,P0 (a:=Py x) R (P7 hx),trivial⟩)
 have hml:=Nk Py (e.lyr.take 5) k
 have he:=P9 (f:=Py) (l:=(e.lyr.take 5)) (k:=k) (by omega)
 refine Av<|zr<|zp (Ac (Ad R R Bw R lb))<|XL.step R (Af (l':= [.d (dI e.site), .d (dI e.num), .d (dI e.kind), .d (dI e.v.log), .d (dI e.v.dots), .d (.sl 5 ((e.heads.take 5).map Hd.c)), .d (.sl 5 ((e.graces.take 4).map Gr.c)), .d (dI e.art), .d (dI e.orn), .d (dI e.dyn), .own 7503, .d (dI e.stem), .d (dI e.beam)]) R R R R C0 R lb (by kernel_rfl))<|zn<|zt<|?_
 refine B7 (i:=7503) R<|?_
 exact Jw R (RV.cells R R R Bw lb R) (by rw [he];rfl)
end Go.Proofs.YtaafemnkamfgnaaGreat
namespace Go.Proofs.YtaafemnkamfgnaaGreat
open Go.RowKit
def Vo.room (v:Vo):Prop:=∀e∈v.evs,e.room
def Nw (v:Vo):Vo:=⟨(v.evs.take 12).map Sv,v.tups.take 6⟩
theorem Af0 {l:List Ev} {k:Nat} {x:Ev} (h:l[k]? =some x):(l.take (k+1)).map Sv=(l.take k).map Sv++ [Sv x]:=by rw [Br h,List.map_append];rfl
theorem Kj {α:Type} {l:List α} {k m:Nat} (h:k≤m) (h2:¬k<m∨¬k<l.length):l.take k=l.take m:=by
 rcases h2 with h2|h2
 ·rw [show k=m by omega]
 ·rw [List.take_of_length_le (by omega),List.take_of_length_le (by omega)]
theorem Ak9 {v:Vo} (h:Evs v.evs):Evs (Nw v).evs:=fun e he=>by obtain ⟨x,hx,rfl⟩:=List.mem_map.1 he;exact h x (List.mem_of_mem_take hx)
theorem Xc (v:Vo) (h:v.room):XS Tryz.prog 39 [.agg (Vo.c v)] (.agg [.own 7201, .own 7202]) [(7201, .row 59 13 (((Nw v).evs).map Ev.c)),(7202, .row 157 4 (((Nw v).tups).map Tp.c))]:=by
 refine Dx Adv Tryz.func39 R R lb (by kernel_rfl) (by kernel_rfl)<|zr<|XL.step R (Ar 1 (l:= [.d (.sl 13 (v.evs.map Ev.c)), .d (.sl 4 (v.tups.map Tp.c))]) R R (by kernel_rfl))<|XL.step R (Al 2 (l:= [.d (.v (.slice none 0 0)), .d (.v (.slice none 0 0))]) R Bc (by kernel_rfl))<|znr<|?_
 refine XL.step R (Al 3 (l:= [.d (.v (.slice none 0 0)), .d (.v (.slice none 0 0))]) R Bc (by kernel_rfl))<|zn<|zs<|zr<|za R R<|zn<|Ah<|Et 7201 3 0 59 13 (l':= [.own 7201, .d (.v (.slice none 0 0))]) R R (by decide) (by kernel_rfl)<|?_
 refine Az (α:=Nat) (fun k=>k≤v.evs.length∧k≤12) (fun k=>mkF [(1, .ptr 1 0 0),(2, .ptr 2 0 0),(3, .ptr 3 0 0),(4, .d (dI k))]) (fun k=>mkH [(1, .box ((Vo.c v).map S.d)),(2, .box [.d (.v (.slice none 0 0)), .d (.v (.slice none 0 0))]),(3, .box [.own 7201, .d (.v (.slice none 0 0))]),(7201, .row 59 13 (((v.evs.take k).map Sv).map Ev.c))]) (fun k=>v.evs.length - k) (0) (⟨Nat.zero_le _,Nat.zero_le _⟩) ?_ ?_ ?_
 exact fz ⟨sr,sr,sr,sr,trivial⟩
 exact gz ⟨R,R,R,R,trivial⟩
 intro k hk0
 obtain ⟨hk,hk12⟩:=hk0
 refine zs<|zr<|zm R R<|zp (Aa R R Bp)<|zp (Ab R R C6 R R)<|XL.len R R R Tryz.underlying79 fun hl8=>zp (Ap R R R)<|zm R R<|?_
 refine XL.dec 10 R (fun g10=> ?_) (fun g10=> ?_)
 refine zm R R<|zp (Ap R R R)<|zq R R R<|zn<|?_
 refine zd R (fun c13=> ?_) (fun c13=> ?_)
 have hkl:k<v.evs.length:=by omega
 obtain ⟨x,hx⟩:=Ax hkl
 have hr:=h x (List.mem_of_getElem? hx)
 have htl:((v.evs.take k).map Sv).length=k:=by rw [List.length_map,List.length_take];omega
 refine zi<|zs<|Ah<|Cm 9 [] (by kernel_rfl) (by kernel_rfl) (by kernel_rfl) (by kernel_rfl) (by decide)<|yp (Aa R R Bp)<|yp (Ab R R C6 R R)<|yp (Aa R R Bp)<|yp (Ab R R C6 R R)<|ym R R<|yp (Aq R R R Hy (hx))<|yp (Ae (s':= .d (.agg (Ev.c x))) (A8 R R Bw lb) (by kernel_rfl))<|?_
 refine ChK.cons R (CStep.call R (Xd _ (by assumption)) R)<|ChK.cons R (CStep.slice R Tryz.underlying79 C0 B9 R R (by omega) (by omega))<|?_
 refine ChK.nil ⟨by kernel_rfl, ?_⟩
 refine XL.step R (A6 R Gd (.own R) (Src.sl (by omega)) (by unfold maxLen;simp;omega) (by simp;omega))<|zp (Aa R R Bp)<|XL.step R (Af (l':= [.own 7201, .d (.v (.slice none 0 0))]) R R R R Q4 R lb (by kernel_rfl))<|zn<|Ag (by kernel_rfl)<|zm R R<|zp (Am R R R (by omega) (by omega))<|za R R<|zn<|?_
 exact An (k+1) (⟨by omega,by omega⟩) (by omega) (fz ⟨sr,sr,sr,sr,trivial⟩) (gz ⟨rfl,rfl,rfl,Jc rfl (Af0 hx),trivial⟩)
 refine Av<|zs<|Cm 9 [] (by kernel_rfl) (by kernel_rfl) (by kernel_rfl) (by kernel_rfl) (by decide)<|yp (Aa R R B0)<|yp (Ab R R B2 R R)<|yp (Aa R R B0)<|yp (Ab R R B2 R R)<|yp (Aa R R B0)<|yp (Ab R R B2 R R)<|yp (Mq R R Tryz.underlying80)<|yp (Fu R R R)<|yp (K7 R R R Fb)<|?_
 refine ChK.nil ⟨by kernel_rfl, ?_⟩
 refine XL.step R (A6 R Fs (.nil 7202 _ _) (Src.sl (by omega)) (by unfold maxLen;simp;omega) (by simp;omega))<|zp (Aa R R B0)<|XL.step R (Af (l':= [.own 7201, .own 7202]) R R R R F4 R lb (by kernel_rfl))<|znr<|zp (Ac (Ad R R As R lb))<|XL.step R (Af (l':= [.own 7201, .own 7202]) R R R R Bm R lb (by kernel_rfl))<|zn<|zt<|?_
 exact ⟨Ci R (RVS.eq (RVS.cells (i:=2) R R R As lb) R),HSub.cons (by rw [Kj (l:=v.evs) hk12 (by omega)];rfl) (HSub.cons (R) (HSub.nil))⟩
 refine zk 2 R<|zq R R R<|zn<|A3 (by kernel_rfl) R<|Av<|zs<|Cm 9 [] (by kernel_rfl) (by kernel_rfl) (by kernel_rfl) (by kernel_rfl) (by decide)<|yp (Aa R R B0)<|yp (Ab R R B2 R R)<|yp (Aa R R B0)<|yp (Ab R R B2 R R)<|yp (Aa R R B0)<|yp (Ab R R B2 R R)<|yp (Mq R R Tryz.underlying80)<|?_
 refine yp (Fu R R R)<|yp (K7 R R R Fb)<|?_
 refine ChK.nil ⟨by kernel_rfl, ?_⟩
 refine XL.step R (A6 R Fs (.nil 7202 _ _) (Src.sl (by omega)) (by unfold maxLen;simp;omega) (by simp;omega))<|zp (Aa R R B0)<|XL.step R (Af (l':= [.own 7201, .own 7202]) R R R R F4 R lb (by kernel_rfl))<|znr<|zp (Ac (Ad R R As R lb))<|XL.step R (Af (l':= [.own 7201, .own 7202]) R R R R Bm R lb (by kernel_rfl))<|zn<|zt<|?_
 exact ⟨Ci R (RVS.eq (RVS.cells (i:=2) R R R As lb) R),HSub.cons (by rw [Kj (l:=v.evs) hk12 (by omega)];rfl) (HSub.cons (R) (HSub.nil))⟩
def Ms.room (m:Ms):Prop:=∀c∈m.cells,∀v∈c.voices,v.room
def Ml (v:Vo):List T:=(Nw v).t
def U5 (c:Ce):Ce:=⟨c.clefs.take 8,(c.voices.take 3).map Nw⟩
def Lh (c:Ce):List T:=(U5 c).t
def shH (h:Mh):Mh:={h with reh:=h.reh.take 30}
def Ew (m:Ms):Ms:=⟨shH m.h,m.tempi.take 8,(m.cells.take 4).map U5⟩
theorem L8 (ls:List Nat) (l:List Vo):T.inLL ls (l.map Ml)=true:=T.inLL_map (fun v=>Vo.t_in ls (Nw v)) l
theorem Jn (ls:List Nat) (l:List Ce):T.inLL ls (l.map Lh)=true:=T.inLL_map (fun v=>Ce.t_in ls (U5 v)) l
theorem Yf (l:List Vo):l.map Ml=(l.map Nw).map Vo.t:=by rw [List.map_map];rfl
theorem Yg (l:List Ce):l.map Lh=(l.map U5).map Ce.t:=by rw [List.map_map];rfl
theorem Ala {m:Ms} (h:m.evs):(Ew m).evs:=fun c hc v hv=>by
 obtain ⟨x,hx,rfl⟩:=List.mem_map.1 hc
 obtain ⟨y,hy,rfl⟩:=List.mem_map.1 hv
 exact Ak9 (h x (List.mem_of_mem_take hx) y (List.mem_of_mem_take hy))
theorem Ak6 (m:Ms) (h:m.room):XS Tryz.prog 14 [.agg (Ms.c m)] (.agg [.d (dI (shH m.h).site), .d (dI (shH m.h).num), .d (dI (shH m.h).m.count), .d (dI (shH m.h).m.unit), .d (dI (shH m.h).m.g0), .d (dI (shH m.h).m.g1), .d (dI (shH m.h).m.g2), .d (dI (shH m.h).m.g3), .d (dI (shH m.h).m.g4), .d (dI (shH m.h).m.g5), .d (dI (shH m.h).len), .d (dI (shH m.h).fifths), .d (dB (shH m.h).start), .d (dI (shH m.h).fin), .d (dI (shH m.h).ends), .d (dI (shH m.h).jump), .d (dI (shH m.h).labels), .d (dI (shH m.h).swing), .d (dI (shH m.h).brk), .d (.v (.string ⟨(shH m.h).reh.toArray⟩)), .own 7401, .own 7402]) [(7401, .row 119 3 (((Ew m).tempi).map Tm.c)),(7402, .tree 78 2 [] ((Ew m).cells.map Ce.t))]:=by
 refine Dx Ad4 Tryz.func14 R R lb (by kernel_rfl) (by kernel_rfl)<|zr<|?_
 refine XL.step R (Ar 1 (l:= [.d (dI m.h.site), .d (dI m.h.num), .d (dI m.h.m.count), .d (dI m.h.m.unit), .d (dI m.h.m.g0), .d (dI m.h.m.g1), .d (dI m.h.m.g2), .d (dI m.h.m.g3), .d (dI m.h.m.g4), .d (dI m.h.m.g5), .d (dI m.h.len), .d (dI m.h.fifths), .d (dB m.h.start), .d (dI m.h.fin), .d (dI m.h.ends), .d (dI m.h.jump), .d (dI m.h.labels), .d (dI m.h.swing), .d (dI m.h.brk), .d (.v (.string ⟨m.h.reh.toArray⟩)), .d (.sl 3 (m.tempi.map Tm.c)), .d (.sl 2 (m.cells.map Ce.c))]) R R (by kernel_rfl))<|?_
 refine XL.step R (Al 2 (l:= [.d (dI 0), .d (dI 0), .d (dI 0), .d (dI 0), .d (dI 0), .d (dI 0), .d (dI 0), .d (dI 0), .d (dI 0), .d (dI 0), .d (dI 0), .d (dI 0), .d (dB false), .d (dI 0), .d (dI 0), .d (dI 0), .d (dI 0), .d (dI 0), .d (dI 0), .d (.v (.string ⟨#[]⟩)), .d (.v (.slice none 0 0)), .d (.v (.slice none 0 0))]) R F7 (by kernel_rfl))<|znr<|zp (Aa R R Cu)<|?_
 refine zp (Ab R R Gu R R)<|za R R<|znr<|zp (Aa R R Cu)<|?_
 refine XL.step R (Af (l':= [.d (dI m.h.site), .d (dI m.h.num), .d (dI m.h.m.count), .d (dI m.h.m.unit), .d (dI m.h.m.g0), .d (dI m.h.m.g1), .d (dI m.h.m.g2), .d (dI m.h.m.g3), .d (dI m.h.m.g4), .d (dI m.h.m.g5), .d (dI m.h.len), .d (dI m.h.fifths), .d (dB m.h.start), .d (dI m.h.fin), .d (dI m.h.ends), .d (dI m.h.jump), .d (dI m.h.labels), .d (dI m.h.swing), .d (dI m.h.brk), .d (.v (.string ⟨m.h.reh.toArray⟩)), .d (.sl 3 (m.tempi.map Tm.c)),_]) R R R R T3 R lb R)<|?_
 refine zn<|zs<|zr<|za R R<|zn<|Ah<|?_
 refine Et 7402 1 21 78 2 (l':= [.d (dI m.h.site), .d (dI m.h.num), .d (dI m.h.m.count), .d (dI m.h.m.unit), .d (dI m.h.m.g0), .d (dI m.h.m.g1), .d (dI m.h.m.g2), .d (dI m.h.m.g3), .d (dI m.h.m.g4), .d (dI m.h.m.g5), .d (dI m.h.len), .d (dI m.h.fifths), .d (dB m.h.start), .d (dI m.h.fin), .d (dI m.h.ends), .d (dI m.h.jump), .d (dI m.h.labels), .d (dI m.h.swing), .d (dI m.h.brk), .d (.v (.string ⟨m.h.reh.toArray⟩)), .d (.sl 3 (m.tempi.map Tm.c)), .own 7402]) R R (by decide) (by kernel_rfl)<|?_
 refine Tu (i:=7402) (l':= []) R R<|?_
 refine Az (α:=Nat) (fun k=>k≤m.cells.length∧k≤4) (fun k=>mkF [(1, .ptr 1 0 0),(2, .ptr 2 0 0),(3, .d (.sl 2 (m.cells.map Ce.c))),(4, .d (dI k))]) (fun k=>mkH [(1, .box [.d (dI m.h.site), .d (dI m.h.num), .d (dI m.h.m.count), .d (dI m.h.m.unit), .d (dI m.h.m.g0), .d (dI m.h.m.g1), .d (dI m.h.m.g2), .d (dI m.h.m.g3), .d (dI m.h.m.g4), .d (dI m.h.m.g5), .d (dI m.h.len), .d (dI m.h.fifths), .d (dB m.h.start), .d (dI m.h.fin), .d (dI m.h.ends), .d (dI m.h.jump), .d (dI m.h.labels), .d (dI m.h.swing), .d (dI m.h.brk), .d (.v (.string ⟨m.h.reh.toArray⟩)), .d (.sl 3 (m.tempi.map Tm.c)), .own 7402]),(2, .box [.d (dI 0), .d (dI 0), .d (dI 0), .d (dI 0), .d (dI 0), .d (dI 0), .d (dI 0), .d (dI 0), .d (dI 0), .d (dI 0), .d (dI 0), .d (dI 0), .d (dB false), .d (dI 0), .d (dI 0), .d (dI 0), .d (dI 0), .d (dI 0), .d (dI 0), .d (.v (.string ⟨#[]⟩)), .d (.v (.slice none 0 0)), .d (.v (.slice none 0 0))]),(7402, .tree 78 2 [] ((m.cells.take k).map Lh))]) (fun k=>m.cells.length - k) (0) (⟨Nat.zero_le _,Nat.zero_le _⟩) ?_ ?_ ?_
 exact fz ⟨sr,sr,sr,sr,trivial⟩
 exact gz ⟨R,R,R,trivial⟩
 intro k hk0
 obtain ⟨hk,hk4⟩:=hk0
 refine zs<|zr<|zm R R<|zm R R<|XL.len R R R Tryz.underlying28 fun hl12=>zp (Ap R R R)<|zm R R<|?_
 refine XL.dec 14 R (fun g14=> ?_) (fun g14=> ?_)
 refine zm R R<|zp (Ap R R R)<|zq R R R<|zn<|?_
 refine zd R (fun c17=> ?_) (fun c17=> ?_)
 have hkl:k<m.cells.length:=by omega
 obtain ⟨x,hx⟩:=Ax hkl
 have hr:=h x (List.mem_of_getElem? hx)
 have htl:(m.cells.take k).length=k:=by rw [List.length_take];omega
 refine zi<|zs<|Ah<|zr<|XL.step R (Al 5 (l:= [.d (.v (.slice none 0 0)), .d (.v (.slice none 0 0))]) R Fw (by kernel_rfl))<|zn<|zs<|Cm 15 [] (by kernel_rfl) (by kernel_rfl) (by kernel_rfl) (by kernel_rfl) (by decide)<|yp (Aa R R Ee)<|yp (Ab R R I7 R R)<|ym R R<|ym R R<|yp (Aq R R R Kc (hx))<|yp (Dt R R Ee)<|?_
 refine yp (A7 R R I7)<|ym R R<|ym R R<|yp (Aq R R R Kc (hx))<|yp (Dt R R Ee)<|yp (A7 R R I7)<|yp (Mq R R Tryz.underlying75)<|yp (Fu R R R)<|yp (K7 R R R Iw)<|?_
 refine ChK.nil ⟨by kernel_rfl, ?_⟩
 refine XL.step R (A6 R Ajw (.nil 7301 _ _) (Src.sl (by omega)) (by unfold maxLen;simp;omega) (by simp;omega))<|XL.rowq (i:=7301) (l':=(x.clefs.take 8).map Cf.c) R (R)<|zp (Aa R R Ee)<|XL.step R (Af (l':= [.own 7301, .d (.v (.slice none 0 0))]) R R R R Aft R lb (by kernel_rfl))<|zn<|zs<|zr<|za R R<|zn<|Ah<|?_
 refine Et 7302 5 1 82 2 (l':= [.own 7301, .own 7302]) R R (by decide) (by kernel_rfl)<|Tu (i:=7302) (l':= []) R R<|?_
 refine Az (α:=Nat) (fun j=>j≤x.voices.length∧j≤3) (fun j=>mkF [(1, .ptr 1 0 0),(2, .ptr 2 0 0),(3, .d (.sl 2 (m.cells.map Ce.c))),(4, .d (dI k)),(5, .ptr 5 0 0),(6, .d (dI j))]) (fun j=>mkH [(1, .box [.d (dI m.h.site), .d (dI m.h.num), .d (dI m.h.m.count), .d (dI m.h.m.unit), .d (dI m.h.m.g0), .d (dI m.h.m.g1), .d (dI m.h.m.g2), .d (dI m.h.m.g3), .d (dI m.h.m.g4), .d (dI m.h.m.g5), .d (dI m.h.len), .d (dI m.h.fifths), .d (dB m.h.start), .d (dI m.h.fin), .d (dI m.h.ends), .d (dI m.h.jump), .d (dI m.h.labels), .d (dI m.h.swing), .d (dI m.h.brk), .d (.v (.string ⟨m.h.reh.toArray⟩)), .d (.sl 3 (m.tempi.map Tm.c)), .own 7402]),(2, .box [.d (dI 0), .d (dI 0), .d (dI 0), .d (dI 0), .d (dI 0), .d (dI 0), .d (dI 0), .d (dI 0), .d (dI 0), .d (dI 0), .d (dI 0), .d (dI 0), .d (dB false), .d (dI 0), .d (dI 0), .d (dI 0), .d (dI 0), .d (dI 0), .d (dI 0), .d (.v (.string ⟨#[]⟩)), .d (.v (.slice none 0 0)), .d (.v (.slice none 0 0))]),(5, .box [.own 7301, .own 7302]),(7301, .row 84 2 ((x.clefs.take 8).map Cf.c)),(7302, .tree 82 2 [] ((x.voices.take j).map Ml)),(7402, .tree 78 2 [] ((m.cells.take k).map Lh))]) (fun j=>x.voices.length - j) (0) (⟨Nat.zero_le _,Nat.zero_le _⟩) ?_ ?_ ?_
 exact fz ⟨sr,sr,sr,sr,sr,sr,trivial⟩
 exact gz ⟨R,R,R,R,R,R,trivial⟩
 intro j hk2
 obtain ⟨hj,hj3⟩:=hk2
 refine zs<|zr<|zm R R<|zm R R<|zm R R<|zp (Aq R R R Kc (hx))<|zp (Dt R R Cs)<|zp (A7 R R Ez)<|XL.len R R R Tryz.underlying76 fun hl43=>zp (Ap R R R)<|zm R R<|?_
 refine XL.dec 45 R (fun g45=> ?_) (fun g45=> ?_)
 refine zm R R<|zp (Ap R R R)<|zq R R R<|zn<|?_
 refine zd R (fun c48=> ?_) (fun c48=> ?_)
 have hjl:j<x.voices.length:=by omega
 obtain ⟨y,hy⟩:=Ax hjl
 have hq:=hr y (List.mem_of_getElem? hy)
 have hul:(x.voices.take j).length=j:=by rw [List.length_take];omega
 refine zi<|zs<|Ah<|Cm 12 [7201,7202,62] (by kernel_rfl) (by kernel_rfl) (by kernel_rfl) (by kernel_rfl) (by decide)<|yp (Aa R R Cs)<|yp (Ab R R Ez R R)<|ym R R<|ym R R<|yp (Aq R R R Kc (hx))<|yp (Dt R R Cs)<|yp (A7 R R Ez)<|ym R R<|yp (Aq R R R Kb (hy))<|?_
 refine yp (Ae (s':= .d (.agg (Vo.c y))) (A8 R R As lb) (by kernel_rfl))<|ChK.cons R (CStep.callS R (Xc _ (by assumption)) R (Mx (by kernel_rfl)))<|ChK.cons R (CStep.slice1 62 (cs:= [.own 7201, .own 7202]) R Tryz.underlying76 Bm Bc R R (by decide) (by decide) R)<|?_
 refine ChK.nil ⟨by kernel_rfl, ?_⟩
 refine XL.step R (Gx [7201,7202] (lr:=((x.voices.take (j+1)).map Ml).set j [.own 7201, .own 7202]) R Ajv (.own R) (SrcT.ownS R) (by unfold maxLen;simp;omega) (by simp;omega) (Oi hy _) (D9 (L8 [] _) (Gk (R) (R)) _) R)<|?_
 refine XL.closeR (i:=7302) (j:=7201) (k:=j) (m:=0) (l':=((x.voices.take (j+1)).map Ml).set j [.row 59 13 ((((Nw y).evs).map Ev.c).map (·.map T.d)), .own 7202]) [7202] R R R (Db (D4 hy)) R (List.set_set ..) (D9 (L8 [] _) (Gk (E7 (T.inLL_d _ _)) (R)) _) R<|?_
 refine XL.closeR (i:=7302) (j:=7202) (k:=j) (m:=1) (l':=((x.voices.take (j+1)).map Ml).set j [.row 59 13 ((((Nw y).evs).map Ev.c).map (·.map T.d)), .row 157 4 ((((Nw y).tups).map Tp.c).map (·.map T.d))]) [] R R R (Db (D4 hy)) R (List.set_set ..) (D9 (L8 [] _) (Gk (E7 (T.inLL_d _ _)) (E7 (T.inLL_d _ _))) _) R<|?_
 refine XL.rowqT (i:=7302) (l':=(x.voices.take (j+1)).map Ml) [] R (set_same (D4 hy)) (L8 [] _)<|zp (Aa R R Cs)<|XL.step R (Af (l':= [.own 7301, .own 7302]) R R R R Ang R lb (by kernel_rfl))<|zn<|Ag (by kernel_rfl)<|zm R R<|zp (Am R R R (by omega) (by omega))<|za R R<|zn<|?_
 exact An (j+1) (⟨by omega,by omega⟩) (by omega) (fz ⟨sr,sr,sr,sr,sr,sr,trivial⟩) (gz ⟨rfl,rfl,rfl,rfl,rfl,rfl,trivial⟩)
 refine Av<|Ag (by kernel_rfl)<|zp (Aa R R Cu)<|zp (Ab R R Gu R R)<|zp (Ac (Ad R R I5 R lb))<|XL.step R (Vz 68 (cs:= [.own 7301, .own 7302]) R Tryz.underlying28 Kt Fw R R (by decide) (by decide))<|?_
 refine XL.step R (Gx [7301,7302] (lr:=((m.cells.take (k+1)).map Lh).set k [.own 7301, .own 7302]) R Zw (.own R) (SrcT.ownS R) (by unfold maxLen;simp;omega) (by simp;omega) (Oi hx _) (D9 (Jn [] _) (Gk (R) (R)) _) R)<|?_
 have hvt:(x.voices.take j).map Ml=(U5 x).voices.map Vo.t:=by rw [Kj (l:=x.voices) hj3 (by omega),Yf];rfl
 refine XL.closeR (i:=7402) (j:=7301) (k:=k) (m:=0) (l':=((m.cells.take (k+1)).map Lh).set k [.row 84 2 (((x.clefs.take 8).map Cf.c).map (·.map T.d)), .own 7302]) [7302] R R R (Db (D4 hx)) R (List.set_set ..) (D9 (Jn [] _) (Gk (E7 (T.inLL_d _ _)) (R)) _) R<|?_
 refine XL.closeT (i:=7402) (j:=7302) (k:=k) (m:=1) (l':=((m.cells.take (k+1)).map Lh).set k [.row 84 2 (((x.clefs.take 8).map Cf.c).map (·.map T.d)), .row 82 2 ((x.voices.take j).map Ml)]) [] R R R (Db (D4 hx)) R (List.set_set ..) (D9 (Jn [] _) (Gk (E7 (T.inLL_d _ _)) (E7 (T.nil_in (L8 [] _) _))) _) R<|?_
 refine XL.rowqT (i:=7402) (l':=(m.cells.take (k+1)).map Lh) [] R (by rw [hvt];exact set_same (D4 hx)) (Jn [] _)<|zp (Aa R R Cu)<|?_
 refine XL.step R (Af (l':= [.d (dI m.h.site), .d (dI m.h.num), .d (dI m.h.m.count), .d (dI m.h.m.unit), .d (dI m.h.m.g0), .d (dI m.h.m.g1), .d (dI m.h.m.g2), .d (dI m.h.m.g3), .d (dI m.h.m.g4), .d (dI m.h.m.g5), .d (dI m.h.len), .d (dI m.h.fifths), .d (dB m.h.start), .d (dI m.h.fin), .d (dI m.h.ends), .d (dI m.h.jump), .d (dI m.h.labels), .d (dI m.h.swing), .d (dI m.h.brk), .d (.v (.string ⟨m.h.reh.toArray⟩)), .d (.sl 3 (m.tempi.map Tm.c)), .own 7402]) R R R R T3 R lb (by kernel_rfl))<|?_
 refine zn<|Ag (by kernel_rfl)<|zm R R<|zp (Am R R R (by omega) (by omega))<|za R R<|zn<|?_
 exact An (k+1) (⟨by omega,by omega⟩) (by omega) (fz ⟨sr,sr,sr,sr,trivial⟩) (gz ⟨rfl,rfl,rfl,trivial⟩)
 refine zk 2 R<|zq R R R<|zn<|A3 (by kernel_rfl) R<|Av<|Ag (by kernel_rfl)<|zp (Aa R R Cu)<|zp (Ab R R Gu R R)<|zp (Ac (Ad R R I5 R lb))<|XL.step R (Vz 68 (cs:= [.own 7301, .own 7302]) R Tryz.underlying28 Kt Fw R R (by decide) (by decide))<|?_
 refine XL.step R (Gx [7301,7302] (lr:=((m.cells.take (k+1)).map Lh).set k [.own 7301, .own 7302]) R Zw (.own R) (SrcT.ownS R) (by unfold maxLen;simp;omega) (by simp;omega) (Oi hx _) (D9 (Jn [] _) (Gk (R) (R)) _) R)<|?_
 have hvt:(x.voices.take j).map Ml=(U5 x).voices.map Vo.t:=by rw [Kj (l:=x.voices) hj3 (by omega),Yf];rfl
 refine XL.closeR (i:=7402) (j:=7301) (k:=k) (m:=0) (l':=((m.cells.take (k+1)).map Lh).set k [.row 84 2 (((x.clefs.take 8).map Cf.c).map (·.map T.d)), .own 7302]) [7302] R R R (Db (D4 hx)) R (List.set_set ..) (D9 (Jn [] _) (Gk (E7 (T.inLL_d _ _)) (R)) _) R<|?_
 refine XL.closeT (i:=7402) (j:=7302) (k:=k) (m:=1) (l':=((m.cells.take (k+1)).map Lh).set k [.row 84 2 (((x.clefs.take 8).map Cf.c).map (·.map T.d)), .row 82 2 ((x.voices.take j).map Ml)]) [] R R R (Db (D4 hx)) R (List.set_set ..) (D9 (Jn [] _) (Gk (E7 (T.inLL_d _ _)) (E7 (T.nil_in (L8 [] _) _))) _) R<|?_
 refine XL.rowqT (i:=7402) (l':=(m.cells.take (k+1)).map Lh) [] R (by rw [hvt];exact set_same (D4 hx)) (Jn [] _)<|zp (Aa R R Cu)<|?_
 refine XL.step R (Af (l':= [.d (dI m.h.site), .d (dI m.h.num), .d (dI m.h.m.count), .d (dI m.h.m.unit), .d (dI m.h.m.g0), .d (dI m.h.m.g1), .d (dI m.h.m.g2), .d (dI m.h.m.g3), .d (dI m.h.m.g4), .d (dI m.h.m.g5), .d (dI m.h.len), .d (dI m.h.fifths), .d (dB m.h.start), .d (dI m.h.fin), .d (dI m.h.ends), .d (dI m.h.jump), .d (dI m.h.labels), .d (dI m.h.swing), .d (dI m.h.brk), .d (.v (.string ⟨m.h.reh.toArray⟩)), .d (.sl 3 (m.tempi.map Tm.c)), .own 7402]) R R R R T3 R lb (by kernel_rfl))<|?_
 refine zn<|Ag (by kernel_rfl)<|zm R R<|zp (Am R R R (by omega) (by omega))<|za R R<|zn<|?_
 exact An (k+1) (⟨by omega,by omega⟩) (by omega) (fz ⟨sr,sr,sr,sr,trivial⟩) (gz ⟨rfl,rfl,rfl,trivial⟩)
 refine Av<|zr<|XL.step R (Bj 7401 R Tryz.underlying27 Pq Md R R (by omega) (by omega))<|zp (Aa R R Ff)<|zp (Ab R R Q6 R R)<|zp (Aa R R Ff)<|zp (Ab R R Q6 R R)<|XL.len R R R Tryz.underlying27 fun hl76=>zp (Fu R R R)<|zp (K7 R R R Pb)<|?_
 refine XL.step R (A6 R Zx (.own R) (Src.sl (by omega)) (by unfold maxLen;simp;omega) (by simp;omega))<|zp (Aa R R Ff)<|?_
 refine XL.step R (Af (l':= [.d (dI m.h.site), .d (dI m.h.num), .d (dI m.h.m.count), .d (dI m.h.m.unit), .d (dI m.h.m.g0), .d (dI m.h.m.g1), .d (dI m.h.m.g2), .d (dI m.h.m.g3), .d (dI m.h.m.g4), .d (dI m.h.m.g5), .d (dI m.h.len), .d (dI m.h.fifths), .d (dB m.h.start), .d (dI m.h.fin), .d (dI m.h.ends), .d (dI m.h.jump), .d (dI m.h.labels), .d (dI m.h.swing), .d (dI m.h.brk), .d (.v (.string ⟨m.h.reh.toArray⟩)), .own 7401, .own 7402]) R R R R T4 R lb (by kernel_rfl))<|?_
 refine znr<|zp (Aa R R Jq)<|zp (Ab R R Kl R R)<|zp (Aa R R Jq)<|zp (Ab R R Kl R R)<|zp (K9 R R Tryz.underlying9)<|zp (Fu R R R)<|zp (U9 R R R Tryz.underlying9)<|zp (Aa R R Jq)<|?_
 refine XL.step R (Af (l':= [.d (dI m.h.site), .d (dI m.h.num), .d (dI m.h.m.count), .d (dI m.h.m.unit), .d (dI m.h.m.g0), .d (dI m.h.m.g1), .d (dI m.h.m.g2), .d (dI m.h.m.g3), .d (dI m.h.m.g4), .d (dI m.h.m.g5), .d (dI m.h.len), .d (dI m.h.fifths), .d (dB m.h.start), .d (dI m.h.fin), .d (dI m.h.ends), .d (dI m.h.jump), .d (dI m.h.labels), .d (dI m.h.swing), .d (dI m.h.brk), .d (.v (.string ⟨(m.h.reh.take 30).toArray⟩)), .own 7401, .own 7402]) R R R R Ak0 R lb (by kernel_rfl))<|?_
 refine znr<|zp (Ac (Ad R R Cb R lb))<|?_
 refine XL.step R (Af (l':= [.d (dI m.h.site), .d (dI m.h.num), .d (dI m.h.m.count), .d (dI m.h.m.unit), .d (dI m.h.m.g0), .d (dI m.h.m.g1), .d (dI m.h.m.g2), .d (dI m.h.m.g3), .d (dI m.h.m.g4), .d (dI m.h.m.g5), .d (dI m.h.len), .d (dI m.h.fifths), .d (dB m.h.start), .d (dI m.h.fin), .d (dI m.h.ends), .d (dI m.h.jump), .d (dI m.h.labels), .d (dI m.h.swing), .d (dI m.h.brk), .d (.v (.string ⟨(m.h.reh.take 30).toArray⟩)), .own 7401, .own 7402]) R R R R Gt R lb (by kernel_rfl))<|?_
 refine zn<|zt<|?_
 exact ⟨Ci R (RVS.eq (RVS.cells (i:=2) R R R Cb lb) R),HSub.cons (R) (HSub.cons (by rw [Kj (l:=m.cells) hk4 (by omega),Yg];rfl) (HSub.nil))⟩
 refine zk 2 R<|zq R R R<|zn<|A3 (by kernel_rfl) R<|Av<|zr<|XL.step R (Bj 7401 R Tryz.underlying27 Pq Md R R (by omega) (by omega))<|zp (Aa R R Ff)<|zp (Ab R R Q6 R R)<|zp (Aa R R Ff)<|zp (Ab R R Q6 R R)<|XL.len R R R Tryz.underlying27 fun hl76=>zp (Fu R R R)<|zp (K7 R R R Pb)<|?_
 refine XL.step R (A6 R Zx (.own R) (Src.sl (by omega)) (by unfold maxLen;simp;omega) (by simp;omega))<|zp (Aa R R Ff)<|?_
 refine XL.step R (Af (l':= [.d (dI m.h.site), .d (dI m.h.num), .d (dI m.h.m.count), .d (dI m.h.m.unit), .d (dI m.h.m.g0), .d (dI m.h.m.g1), .d (dI m.h.m.g2), .d (dI m.h.m.g3), .d (dI m.h.m.g4), .d (dI m.h.m.g5), .d (dI m.h.len), .d (dI m.h.fifths), .d (dB m.h.start), .d (dI m.h.fin), .d (dI m.h.ends), .d (dI m.h.jump), .d (dI m.h.labels), .d (dI m.h.swing), .d (dI m.h.brk), .d (.v (.string ⟨m.h.reh.toArray⟩)), .own 7401, .own 7402]) R R R R T4 R lb (by kernel_rfl))<|?_
 refine znr<|zp (Aa R R Jq)<|zp (Ab R R Kl R R)<|zp (Aa R R Jq)<|zp (Ab R R Kl R R)<|zp (K9 R R Tryz.underlying9)<|zp (Fu R R R)<|zp (U9 R R R Tryz.underlying9)<|zp (Aa R R Jq)<|?_
 refine XL.step R (Af (l':= [.d (dI m.h.site), .d (dI m.h.num), .d (dI m.h.m.count), .d (dI m.h.m.unit), .d (dI m.h.m.g0), .d (dI m.h.m.g1), .d (dI m.h.m.g2), .d (dI m.h.m.g3), .d (dI m.h.m.g4), .d (dI m.h.m.g5), .d (dI m.h.len), .d (dI m.h.fifths), .d (dB m.h.start), .d (dI m.h.fin), .d (dI m.h.ends), .d (dI m.h.jump), .d (dI m.h.labels), .d (dI m.h.swing), .d (dI m.h.brk), .d (.v (.string ⟨(m.h.reh.take 30).toArray⟩)), .own 7401, .own 7402]) R R R R Ak0 R lb (by kernel_rfl))<|?_
 refine znr<|zp (Ac (Ad R R Cb R lb))<|?_
 refine XL.step R (Af (l':= [.d (dI m.h.site), .d (dI m.h.num), .d (dI m.h.m.count), .d (dI m.h.m.unit), .d (dI m.h.m.g0), .d (dI m.h.m.g1), .d (dI m.h.m.g2), .d (dI m.h.m.g3), .d (dI m.h.m.g4), .d (dI m.h.m.g5), .d (dI m.h.len), .d (dI m.h.fifths), .d (dB m.h.start), .d (dI m.h.fin), .d (dI m.h.ends), .d (dI m.h.jump), .d (dI m.h.labels), .d (dI m.h.swing), .d (dI m.h.brk), .d (.v (.string ⟨(m.h.reh.take 30).toArray⟩)), .own 7401, .own 7402]) R R R R Gt R lb (by kernel_rfl))<|?_
 refine zn<|zt<|?_
 exact ⟨Ci R (RVS.eq (RVS.cells (i:=2) R R R Cb lb) R),HSub.cons (R) (HSub.cons (by rw [Kj (l:=m.cells) hk4 (by omega),Yg];rfl) (HSub.nil))⟩
theorem XS.xc2 {P:Program} {F:FuncId} {ds:List D} {s:S} {i j:Nat} {e e2:TypeId} {sz sz2:Nat} {l l2:List (List D)} {t:List (List T)} {d:D} (hx:XS P F ds s [(i, .row e sz l),(j, .tree e2 sz2 [] t)]) (hj:((mkH [(i, .row e sz l),(j, .tree e2 sz2 [] t)]).frz i (.sl sz l)) j=some (.tree e2 sz2 [] t)) (hf:T.fzLL t=true) (ht:T.toDLL t=l2)
  (hd:norm ((s.frz i (.sl sz l)).frz j (.sl sz2 l2))= .d d):XC P F ds (fun r=>r=d):=
 ⟨hx.callable, fun H w vs h1 h2 h3 => (hx.calls H w vs h1 h2 h3).mono fun e w' ⟨H', β, u, he, k1, k2, k3⟩ => by
  obtain ⟨H2,q1,q2,q3⟩:=k1.freeze (i:=i) (by simp only [mkH];exact Xh.set_same _ _ _)
  obtain ⟨H3,p1,p2,p3⟩:=q3.freezeT (i:=j) hj hf
  rw [ht] at p2
  have hv:=VS.norm (((k2.mono (q1.trans p1) fun _ _ h=>h).frz i _ (fun L hL=>(q2 L hL).mono p1)).frz j _ p2)
  rw [hd] at hv
  exact ⟨H3, u, d, he, rfl, p3.ext, fun b o u e => p3.new b o u e, p3.imm, p3.below, D2 hv⟩⟩
theorem Ak7 (m:Ms) (h:m.room):XC Tryz.prog 14 [.agg (Ms.c m)] (fun r=>r= .agg (Ms.c (Ew m))):=(Ak6 m h).xc2 rfl (Ces.t_fz _) (Ces.t_D _) rfl
end Go.Proofs.YtaafemnkamfgnaaGreat
namespace Go.Proofs.YtaafemnkamfgnaaGreat
open Go.RowKit
structure DelG {α:Type} (p:α→Bool) (xs:List α) (j i:Nat) (W:List α):Prop where
 lt:i<j
 le:j≤xs.length
 len:W.length=xs.length
 take:W.take i=(xs.take j).filter p
 drop:W.drop j=xs.drop j
section
variable {α:Type} {p:α→Bool} {xs W:List α} {j i:Nat}
theorem Ae1 {l:List α} {k:Nat} {g:α} (h:l[k]? =some g) (hg:p g=false):(l.take (k+1)).filter p=(l.take k).filter p:=by rw [Br h,List.filter_append,List.filter_cons_of_neg (by rw [hg];exact Bool.false_ne_true),List.filter_nil,List.append_nil]
theorem Tn {l:List α} {k:Nat} {g:α} (h:l[k]? =some g) (hg:p g=true):(l.take (k+1)).filter p=(l.take k).filter p++ [g]:=by rw [Br h,List.filter_append,List.filter_cons_of_pos hg,List.filter_nil]
theorem DelG.get (h:DelG p xs j i W) {g:α} (hg:xs[j]? =some g):W[j]? =some g:=by
 have:=congrArg (fun l=>l[0]?) h.drop
 simpa [List.getElem?_drop,hg] using this
theorem DelG.keep (h:DelG p xs j i W) {g:α} (hg:xs[j]? =some g) (h0:p g=false):DelG p xs (j+1) i W:=by
 have:=(List.getElem?_eq_some_iff.1 hg).1
 have:=h.lt
 refine ⟨by omega,by omega,h.len,by rw [Ae1 hg h0];exact h.take, ?_⟩
 rw [←List.drop_drop,h.drop,List.drop_drop]
theorem DelG.put (h:DelG p xs j i W) {g:α} (hg:xs[j]? =some g) (h0:p g=true):DelG p xs (j+1) (i+1) (W.set i g):=by
 have h1:=(List.getElem?_eq_some_iff.1 hg).1
 have h2:=h.lt
 have h3:=h.len
 refine ⟨by omega,by omega,by rw [List.length_set];exact h3, ?_, ?_⟩
 ·rw [Tn hg h0, ←h.take,List.take_succ_eq_append_getElem (by rw [List.length_set];omega),List.getElem_set_self,List.take_set_of_le (Nat.le_refl _)]
 ·rw [List.drop_set_of_lt (by omega), ←List.drop_drop,h.drop,List.drop_drop]
theorem DelG.start {k:Nat} {g:α} (hg:xs[k]? =some g) (h0:p g=false) (hk:(xs.take k).filter p=xs.take k):DelG p xs (k+1) k xs:=
 ⟨by omega,by have:=(List.getElem?_eq_some_iff.1 hg).1;omega,rfl,by rw [Ae1 hg h0,hk],rfl⟩
theorem DelG.fin (h:DelG p xs j i W) (hj:j=xs.length):W.take i=xs.filter p:=by rw [h.take,hj,List.take_length]
theorem DelG.clr (h:DelG p xs j i W) {g:α→List D} {z:α} {zs:List D} (hz:zs=g z):sets (W.map g) i (List.replicate ((W.map g).length - i) zs)=(W.take i++List.replicate (W.length - i) z).map g:=by
 have:=h.lt;have:=h.le;have:=h.len
 subst hz
 rw [Jo _ _ _ (by rw [List.length_replicate,List.length_map];omega),List.drop_eq_nil_of_le (by rw [List.length_replicate,List.length_map];omega),List.append_nil,List.map_append,List.map_take,List.map_replicate,List.length_map]
theorem DelG.cut (h:DelG p xs j i W) {g:α→List D} {z:α}:(((W.take i++List.replicate (W.length - i) z).map g).take i)=(W.take i).map g:=by
 have:=h.lt;have:=h.le;have:=h.len
 rw [←List.map_take,List.take_append_of_le_length (by rw [List.length_take];omega),List.take_take,Nat.min_self]
end
def cfK (n:Int) (x:Cf):Bool:=decide (¬n≤x.tk)
def tmK (n:Int) (x:Tm):Bool:=decide (¬n≤x.tk)
theorem Aka {n:Int} {x:Cf} (h:n≤x.tk):cfK n x=false:=by rw [cfK,decide_eq_false];exact fun k=>k h
theorem Afd {n:Int} {x:Cf} (h:¬n≤x.tk):cfK n x=true:=by rw [cfK,decide_eq_true h]
theorem Ahq {n:Int} {x:Tm} (h:n≤x.tk):tmK n x=false:=by rw [tmK,decide_eq_false];exact fun k=>k h
theorem Aec {n:Int} {x:Tm} (h:¬n≤x.tk):tmK n x=true:=by rw [tmK,decide_eq_true h]
def Co (old p:Pl) (c:Ce):Ce:=⟨c.clefs.filter (cfK p.len),c.voices.map fun v=>(Ea v old p).1⟩
def It (old p:Pl):List Vo→Int
 | []=>0
 |v::l=>if (Ea v old p).2≠0 then (Ea v old p).2 else It old p l
def J8 (old p:Pl):List Ce→Int
 | []=>0
 |c::l=>if It old p c.voices≠0 then It old p c.voices else J8 old p l
theorem Amm {old p:Pl} {l:List Vo} {k:Nat} {v:Vo} (hv:l[k]? =some v) (h:(Ea v old p).2=0):It old p (l.drop k)=It old p (l.drop (k+1)):=by rw [Bv hv,It,if_neg (by omega)]
theorem Zn {old p:Pl} {l:List Vo} {k:Nat} {v:Vo} (hv:l[k]? =some v) (h:(Ea v old p).2≠0):It old p (l.drop k)=(Ea v old p).2:=by rw [Bv hv,It,if_pos h]
theorem Zo {old p:Pl} {l:List Ce} {k:Nat} {c:Ce} (hc:l[k]? =some c) (h:It old p c.voices=0):J8 old p (l.drop k)=J8 old p (l.drop (k+1)):=by rw [Bv hc,J8,if_neg (by omega)]
theorem Amn {old p:Pl} {l:List Ce} {k:Nat} {c:Ce} (hc:l[k]? =some c) (h:It old p c.voices≠0):J8 old p (l.drop k)=It old p c.voices:=by rw [Bv hc,J8,if_pos h]
def Mh.z:Mh:=⟨0,0,Me.z,0,0,false,0,0,0,0,0,0, []⟩
def Ms.z:Ms:=⟨Mh.z, [], []⟩
def Ags (m:Ms) (t:Me) (n:Int) (old p:Pl):Ms:=⟨m.h.sh t n,m.tempi.filter (tmK p.len),m.cells.map (Co old p)⟩
def Jh (m:Ms) (t:Me) (n:Int):Int:=if mlE m.h.m m.h.len≠0 then mlE m.h.m m.h.len else if mlE t n≠0 then mlE t n else J8 (plS m.h.m m.h.len) (plS t n) m.cells
def M4 (m:Ms) (t:Me) (n:Int):Ms:=if Jh m t n≠0 then Ms.z else Ags m t n (plS m.h.m m.h.len) (plS t n)
theorem Aua {m:Ms} {t:Me} {n:Int} (h:mlE m.h.m m.h.len≠0):Jh m t n=mlE m.h.m m.h.len∧M4 m t n=Ms.z:=by
 have e:Jh m t n=mlE m.h.m m.h.len:=by rw [Jh,if_pos h]
 exact ⟨e,by rw [M4,e,if_pos h]⟩
theorem Ar8 {m:Ms} {t:Me} {n:Int} (h:¬mlE m.h.m m.h.len≠0) (h2:mlE t n≠0):Jh m t n=mlE t n∧M4 m t n=Ms.z:=by
 have e:Jh m t n=mlE t n:=by rw [Jh,if_neg h,if_pos h2]
 exact ⟨e,by rw [M4,e,if_pos h2]⟩
theorem At9 {m:Ms} {t:Me} {n e:Int} (h:¬mlE m.h.m m.h.len≠0) (h2:¬mlE t n≠0) (h3:J8 (plS m.h.m m.h.len) (plS t n) m.cells=e) (h4:e≠0):Jh m t n=e∧M4 m t n=Ms.z:=by
 have e:Jh m t n=e:=by rw [Jh,if_neg h,if_neg h2,h3]
 exact ⟨e,by rw [M4,e,if_pos h4]⟩
theorem Ar7 {m:Ms} {t:Me} {n:Int} (h:¬mlE m.h.m m.h.len≠0) (h2:¬mlE t n≠0) (h3:J8 (plS m.h.m m.h.len) (plS t n) m.cells=0):Jh m t n=0∧M4 m t n=Ags m t n (plS m.h.m m.h.len) (plS t n):=by
 have e:Jh m t n=0:=by rw [Jh,if_neg h,if_neg h2,h3]
 exact ⟨e,by rw [M4,e,if_neg (by decide)]⟩
theorem Vh {m m':Ms} {e e':Int} (h:e=e'∧m=m'):D.tup [.agg (Ms.c m'),dI e']= .tup [.agg (Ms.c m),dI e]:=by rw [h.1,h.2]
theorem Amh (h:Mh) (t:Me) (n:Int) (A B:Option Addr) (n0 c0 n1 c1:Nat):XC Tryz.prog 16 [.agg [dI (h.sh t n).site,dI (h.sh t n).num,dI (h.sh t n).m.count,dI (h.sh t n).m.unit,dI (h.sh t n).m.g0,dI (h.sh t n).m.g1,dI (h.sh t n).m.g2,dI (h.sh t n).m.g3,dI (h.sh t n).m.g4,dI (h.sh t n).m.g5,dI (h.sh t n).len,dI (h.sh t n).fifths,dB (h.sh t n).start,dI (h.sh t n).fin,dI (h.sh t n).ends,dI (h.sh t n).jump,dI (h.sh t n).labels,dI (h.sh t n).swing,dI (h.sh t n).brk, .v (.string ⟨(h.sh t n).reh.toArray⟩), .v (.slice A n0 c0), .v (.slice B n1 c1)]] (fun r=>r= .tup [.agg (Pl.c (plS t n)),dI (mlE t n)]):=by
 have k:=Alz (h.sh t n) A B n0 c0 n1 c1
 have e1:plS (h.sh t n).m (h.sh t n).len=plS t n:=Aq5
 have e2:mlE (h.sh t n).m (h.sh t n).len=mlE t n:=Ui
 rw [e1,e2] at k
 exact k
theorem Aic {t:Me} {n:Int} (h:¬mlE t n≠0):1≤(plS t n).len∧(plS t n).len≤15482880∧0≤(plS t n).off∧(plS t n).off≤123863040:=by
 have k:=Alv h
 have hl:=k.me.len
 rw [Alh h]
 exact ⟨k.lo,k.hi,by simp only;omega,by simp only;have:=k.lo;omega⟩
end Go.Proofs.YtaafemnkamfgnaaGreat
namespace Go.Proofs.YtaafemnkamfgnaaGreat
open Go.RowKit
theorem Api (m:Ms) (t:Me) (n:Int) (hF:m.fit) (hE:m.evs):XC Tryz.prog 28 [.agg (Ms.c m), .agg (Me.c t), .v (.int .i64 n)] (fun r=>r= .tup [.agg (Ms.c (M4 m t n)),dI (Jh m t n)]):=by
 refine Ak Ady Tryz.func28 R R lb<|zr<|?_
 refine XL.step R (Ar 3 (l:= [.d (dI m.h.site), .d (dI m.h.num), .d (dI m.h.m.count), .d (dI m.h.m.unit), .d (dI m.h.m.g0), .d (dI m.h.m.g1), .d (dI m.h.m.g2), .d (dI m.h.m.g3), .d (dI m.h.m.g4), .d (dI m.h.m.g5), .d (dI m.h.len), .d (dI m.h.fifths), .d (dB m.h.start), .d (dI m.h.fin), .d (dI m.h.ends), .d (dI m.h.jump), .d (dI m.h.labels), .d (dI m.h.swing), .d (dI m.h.brk), .d (.v (.string ⟨m.h.reh.toArray⟩)), .d (.sl 3 (m.tempi.map Tm.c)), .d (.sl 2 (m.cells.map Ce.c))]) R R (by kernel_rfl))<|?_
 refine XL.step R (Ar 4 (l:= [.d (dI t.count), .d (dI t.unit), .d (dI t.g0), .d (dI t.g1), .d (dI t.g2), .d (dI t.g3), .d (dI t.g4), .d (dI t.g5)]) R R (by kernel_rfl))<|?_
 refine XL.step R (Al 6 (l:= [.d (dI 0), .d (dI 0), .d (dI 0), .d (dI 0), .d (dI 0), .d (dI 0), .d (dI 0), .d (dI 0), .d (dI 0), .d (dI 0), .d (dI 0), .d (dI 0), .d (dB false), .d (dI 0), .d (dI 0), .d (dI 0), .d (dI 0), .d (dI 0), .d (dI 0), .d (.v (.string ⟨#[]⟩)), .d (.v (.slice none 0 0)), .d (.v (.slice none 0 0))]) R F7 (by kernel_rfl))<|za R R<|znr<|?_
 refine zp (Ae (s':= .d (.agg (Ms.c m))) (Ac (Ad R R Cb R lb)) (by kernel_rfl))<|XL.call1 R R (Al0 m.h m.tempi m.cells) R<|zm R R<|zp (Ao R R R)<|zp (Ao R R R)<|XL.step R (Al 8 (l:= [.d (dI 0), .d (dI 0), .d (dI 0), .d (dI 0), .d (dI 0), .d (dI 0), .d (dI 0), .d (dI 0), .d (dI 0), .d (dI 0)]) R Hn (by kernel_rfl))<|?_
 refine XL.step R (Af (l':= [.d (dI (plS m.h.m m.h.len).m.count), .d (dI (plS m.h.m m.h.len).m.unit), .d (dI (plS m.h.m m.h.len).m.g0), .d (dI (plS m.h.m m.h.len).m.g1), .d (dI (plS m.h.m m.h.len).m.g2), .d (dI (plS m.h.m m.h.len).m.g3), .d (dI (plS m.h.m m.h.len).m.g4), .d (dI (plS m.h.m m.h.len).m.g5), .d (dI (plS m.h.m m.h.len).off), .d (dI (plS m.h.m m.h.len).len)]) R R R R Nc R lb (by kernel_rfl))<|?_
 refine za R R<|zn<|zs<|zr<|zm R R<|zp (A1 R R R)<|zn<|?_
 refine zd R (fun c21=> ?_) (fun c21=> ?_)
 refine zr<|?_
 refine zp (Ae (s':= .d (.agg [dI 0,dI 0,dI 0,dI 0,dI 0,dI 0,dI 0,dI 0,dI 0,dI 0,dI 0,dI 0,dB false,dI 0,dI 0,dI 0,dI 0,dI 0,dI 0, .v (.string ⟨#[]⟩), .v (.slice none 0 0), .v (.slice none 0 0)])) (Ac (A0 (r:= [.d (dI 0), .d (dI 0), .d (dI 0), .d (dI 0), .d (dI 0), .d (dI 0), .d (dI 0), .d (dI 0), .d (dI 0), .d (dI 0), .d (dI 0), .d (dI 0), .d (dB false), .d (dI 0), .d (dI 0), .d (dI 0), .d (dI 0), .d (dI 0), .d (dI 0), .d (.v (.string ⟨#[]⟩)), .d (.v (.slice none 0 0)), .d (.v (.slice none 0 0))]) R Ps F7 (by kernel_rfl))) (by kernel_rfl))<|?_
 refine zm R R<|XL.step R (Af (l':= [.d (dI 0), .d (dI 0), .d (dI 0), .d (dI 0), .d (dI 0), .d (dI 0), .d (dI 0), .d (dI 0), .d (dI 0), .d (dI 0), .d (dI 0), .d (dI 0), .d (dB false), .d (dI 0), .d (dI 0), .d (dI 0), .d (dI 0), .d (dI 0), .d (dI 0), .d (.v (.string ⟨#[]⟩)), .d (.v (.slice none 0 0)), .d (.v (.slice none 0 0))]) R R R R Gt R lb (by kernel_rfl))<|za R R<|zn<|zt<|?_
 exact Ay R (RV.sub (RV.cells R R R Cb lb R) (.agg (.cons (.same R) (.cons (.same R) (.cons (.same R) (.cons (.same R) (.cons (.same R) (.cons (.same R) (.cons (.same R) (.cons (.same R) (.cons (.same R) (.cons (.same R) (.cons (.same R) (.cons (.same R) (.cons (.same R) (.cons (.same R) (.cons (.same R) (.cons (.same R) (.cons (.same R) (.cons (.same R) (.cons (.same R) (.cons (.same R) (.cons (.nil 3) (.cons (.nil 2) (.nil))))))))))))))))))))))))) (RV.tmp R R) (Vh (Aua c21))
 refine zi<|zs<|?_
 refine Mf 9 10 [7401,7402,10] id 10 (Tf 10 (.box [.d (dI (m.h.sh t n).site), .d (dI (m.h.sh t n).num), .d (dI (m.h.sh t n).m.count), .d (dI (m.h.sh t n).m.unit), .d (dI (m.h.sh t n).m.g0), .d (dI (m.h.sh t n).m.g1), .d (dI (m.h.sh t n).m.g2), .d (dI (m.h.sh t n).m.g3), .d (dI (m.h.sh t n).m.g4), .d (dI (m.h.sh t n).m.g5), .d (dI (m.h.sh t n).len), .d (dI (m.h.sh t n).fifths), .d (dB (m.h.sh t n).start), .d (dI (m.h.sh t n).fin), .d (dI (m.h.sh t n).ends), .d (dI (m.h.sh t n).jump), .d (dI (m.h.sh t n).labels), .d (dI (m.h.sh t n).swing), .d (dI (m.h.sh t n).brk), .d (.v (.string ⟨(m.h.sh t n).reh.toArray⟩)), .own 7401, .own 7402])) (by kernel_rfl) (by kernel_rfl) (by kernel_rfl) (by kernel_rfl) R (by decide)<|?_
 refine ChMK.bf R (CStep.pure (Ae (s':= .d (.agg (Ms.c m))) (Ac (Ad R R Cb R lb)) (by kernel_rfl))) (by conv=>lhs;whnf)<|?_
 refine ChMK.bfS R (CStep.callS R (Aix _ (by assumption)) R (Mx (by kernel_rfl))) (by conv=>lhs;whnf) (by simp only [List.forall_mem_cons];exact ⟨rfl,⟨rfl,fun p hp=>(by cases hp)⟩⟩) (by simp only [List.forall_mem_cons];exact ⟨rfl,⟨rfl,fun p hp=>(by cases hp)⟩⟩)<|?_
 refine ChMK.bf R (CStep.pure (Ae (s':= .d (.agg (Me.c t))) (Ac (Ad R R Bk R lb)) (by kernel_rfl))) (by conv=>lhs;whnf)<|?_
 refine ChMK.bf R (CStep.pure (Au R (by conv=>lhs;whnf))) (by conv=>lhs;whnf)<|?_
 refine ChMK.bf R (CStep.callP [7401,7402] R [.agg [.d (dI m.h.site), .d (dI m.h.num), .d (dI m.h.m.count), .d (dI m.h.m.unit), .d (dI m.h.m.g0), .d (dI m.h.m.g1), .d (dI m.h.m.g2), .d (dI m.h.m.g3), .d (dI m.h.m.g4), .d (dI m.h.m.g5), .d (dI m.h.len), .d (dI m.h.fifths), .d (dB m.h.start), .d (dI m.h.fin), .d (dI m.h.ends), .d (dI m.h.jump), .d (dI m.h.labels), .d (dI m.h.swing), .d (dI m.h.brk), .d (.v (.string ⟨m.h.reh.toArray⟩)), .own 7401, .own 7402], .d (.agg (Me.c t)), .d (dI n)] R (s:= .tup [.agg [.d (dI (m.h.sh t n).site), .d (dI (m.h.sh t n).num), .d (dI (m.h.sh t n).m.count), .d (dI (m.h.sh t n).m.unit), .d (dI (m.h.sh t n).m.g0), .d (dI (m.h.sh t n).m.g1), .d (dI (m.h.sh t n).m.g2), .d (dI (m.h.sh t n).m.g3), .d (dI (m.h.sh t n).m.g4), .d (dI (m.h.sh t n).m.g5), .d (dI (m.h.sh t n).len), .d (dI (m.h.sh t n).fifths), .d (dB (m.h.sh t n).start), .d (dI (m.h.sh t n).fin), .d (dI (m.h.sh t n).ends), .d (dI (m.h.sh t n).jump), .d (dI (m.h.sh t n).labels), .d (dI (m.h.sh t n).swing), .d (dI (m.h.sh t n).brk), .d (.v (.string ⟨(m.h.sh t n).reh.toArray⟩)), .own 7401, .own 7402], .d (dI (mlE t n))]) (fun ρ=>Ak8 m.h _ _ _ _ _ _ t n) R R R R) (by conv=>lhs;whnf)<|?_
 refine ChMK.bf R (CStep.pure (Au R (by conv=>lhs;whnf))) (by conv=>lhs;whnf)<|?_
 refine ChMK.bf R (CStep.pure (Yv R R R)) (by conv=>lhs;whnf)<|?_
 refine ChMK.fr R R (CStep.pure (Yv R R R)) (CStep.pure (Yv R R R)) (by exact rfl)<|?_
 refine ChMK.bfO R (CStep.allocN 10 (l:= [.d (dI 0), .d (dI 0), .d (dI 0), .d (dI 0), .d (dI 0), .d (dI 0), .d (dI 0), .d (dI 0), .d (dI 0), .d (dI 0), .d (dI 0), .d (dI 0), .d (dB false), .d (dI 0), .d (dI 0), .d (dI 0), .d (dI 0), .d (dI 0), .d (dI 0), .d (.v (.string ⟨#[]⟩)), .d (.v (.slice none 0 0)), .d (.v (.slice none 0 0))]) R F7 R R) (by conv=>lhs;whnf) (fun _ _=>Aly _ _)<|?_
 refine ChMK.mu R (Apj (l2:= [.d (dI (m.h.sh t n).site), .d (dI (m.h.sh t n).num), .d (dI (m.h.sh t n).m.count), .d (dI (m.h.sh t n).m.unit), .d (dI (m.h.sh t n).m.g0), .d (dI (m.h.sh t n).m.g1), .d (dI (m.h.sh t n).m.g2), .d (dI (m.h.sh t n).m.g3), .d (dI (m.h.sh t n).m.g4), .d (dI (m.h.sh t n).m.g5), .d (dI (m.h.sh t n).len), .d (dI (m.h.sh t n).fifths), .d (dB (m.h.sh t n).start), .d (dI (m.h.sh t n).fin), .d (dI (m.h.sh t n).ends), .d (dI (m.h.sh t n).jump), .d (dI (m.h.sh t n).labels), .d (dI (m.h.sh t n).swing), .d (dI (m.h.sh t n).brk), .d (.v (.string ⟨(m.h.sh t n).reh.toArray⟩)), .own 7401, .own 7402]) R R R R Gt R lb (by kernel_rfl))<|?_
 refine ChMK.nil ⟨⟨by kernel_rfl,by kernel_rfl,by kernel_rfl⟩, ?_⟩
 refine za R R<|zn<|zs<|zr<|zm R R<|zp (A1 R R R)<|zn<|?_
 refine zd R (fun c33=> ?_) (fun c33=> ?_)
 refine zr<|?_
 refine zp (Ae (s':= .d (.agg [dI 0,dI 0,dI 0,dI 0,dI 0,dI 0,dI 0,dI 0,dI 0,dI 0,dI 0,dI 0,dB false,dI 0,dI 0,dI 0,dI 0,dI 0,dI 0, .v (.string ⟨#[]⟩), .v (.slice none 0 0), .v (.slice none 0 0)])) (Ac (A0 (r:= [.d (dI 0), .d (dI 0), .d (dI 0), .d (dI 0), .d (dI 0), .d (dI 0), .d (dI 0), .d (dI 0), .d (dI 0), .d (dI 0), .d (dI 0), .d (dI 0), .d (dB false), .d (dI 0), .d (dI 0), .d (dI 0), .d (dI 0), .d (dI 0), .d (dI 0), .d (.v (.string ⟨#[]⟩)), .d (.v (.slice none 0 0)), .d (.v (.slice none 0 0))]) R Ps F7 (by kernel_rfl))) (by kernel_rfl))<|?_
 refine zm R R<|XL.step R (Af (l':= [.d (dI 0), .d (dI 0), .d (dI 0), .d (dI 0), .d (dI 0), .d (dI 0), .d (dI 0), .d (dI 0), .d (dI 0), .d (dI 0), .d (dI 0), .d (dI 0), .d (dB false), .d (dI 0), .d (dI 0), .d (dI 0), .d (dI 0), .d (dI 0), .d (dI 0), .d (.v (.string ⟨#[]⟩)), .d (.v (.slice none 0 0)), .d (.v (.slice none 0 0))]) R R R R Gt R lb (by kernel_rfl))<|za R R<|zn<|zt<|?_
 exact Ay R (RV.sub (RV.cells R R R Cb lb R) (.agg (.cons (.same R) (.cons (.same R) (.cons (.same R) (.cons (.same R) (.cons (.same R) (.cons (.same R) (.cons (.same R) (.cons (.same R) (.cons (.same R) (.cons (.same R) (.cons (.same R) (.cons (.same R) (.cons (.same R) (.cons (.same R) (.cons (.same R) (.cons (.same R) (.cons (.same R) (.cons (.same R) (.cons (.same R) (.cons (.same R) (.cons (.nil 3) (.cons (.nil 2) (.nil))))))))))))))))))))))))) (RV.tmp R R) (Vh (Ar8 c21 c33))
 refine zi<|zr<|zp (Ac (Ad R R Cb R lb))<|?_
 refine XL.callP [7401,7402] R R [.agg [.d (dI (m.h.sh t n).site), .d (dI (m.h.sh t n).num), .d (dI (m.h.sh t n).m.count), .d (dI (m.h.sh t n).m.unit), .d (dI (m.h.sh t n).m.g0), .d (dI (m.h.sh t n).m.g1), .d (dI (m.h.sh t n).m.g2), .d (dI (m.h.sh t n).m.g3), .d (dI (m.h.sh t n).m.g4), .d (dI (m.h.sh t n).m.g5), .d (dI (m.h.sh t n).len), .d (dI (m.h.sh t n).fifths), .d (dB (m.h.sh t n).start), .d (dI (m.h.sh t n).fin), .d (dI (m.h.sh t n).ends), .d (dI (m.h.sh t n).jump), .d (dI (m.h.sh t n).labels), .d (dI (m.h.sh t n).swing), .d (dI (m.h.sh t n).brk), .d (.v (.string ⟨(m.h.sh t n).reh.toArray⟩)), .own 7401, .own 7402]] R (s:= .d (.tup [.agg (Pl.c (plS t n)),dI (mlE t n)])) (fun ρ=>Amh m.h t n _ _ _ _ _ _) R R R R<|?_
 refine zm R R<|zp (Ao R R R)<|zp (Ao R R R)<|XL.step R (Al 11 (l:= [.d (dI 0), .d (dI 0), .d (dI 0), .d (dI 0), .d (dI 0), .d (dI 0), .d (dI 0), .d (dI 0), .d (dI 0), .d (dI 0)]) R Hn (by kernel_rfl))<|?_
 refine XL.step R (Af (l':= [.d (dI (plS t n).m.count), .d (dI (plS t n).m.unit), .d (dI (plS t n).m.g0), .d (dI (plS t n).m.g1), .d (dI (plS t n).m.g2), .d (dI (plS t n).m.g3), .d (dI (plS t n).m.g4), .d (dI (plS t n).m.g5), .d (dI (plS t n).off), .d (dI (plS t n).len)]) R R R R Nc R lb (by kernel_rfl))<|za R R<|zn<|zs<|zr<|zm R R<|zp (A1 R R R)<|zn<|?_
 refine zd R (fun c42=> ?_) (fun c42=> ?_)
 refine zr<|?_
 refine zp (Ae (s':= .d (.agg [dI 0,dI 0,dI 0,dI 0,dI 0,dI 0,dI 0,dI 0,dI 0,dI 0,dI 0,dI 0,dB false,dI 0,dI 0,dI 0,dI 0,dI 0,dI 0, .v (.string ⟨#[]⟩), .v (.slice none 0 0), .v (.slice none 0 0)])) (Ac (A0 (r:= [.d (dI 0), .d (dI 0), .d (dI 0), .d (dI 0), .d (dI 0), .d (dI 0), .d (dI 0), .d (dI 0), .d (dI 0), .d (dI 0), .d (dI 0), .d (dI 0), .d (dB false), .d (dI 0), .d (dI 0), .d (dI 0), .d (dI 0), .d (dI 0), .d (dI 0), .d (.v (.string ⟨#[]⟩)), .d (.v (.slice none 0 0)), .d (.v (.slice none 0 0))]) R Ps F7 (by kernel_rfl))) (by kernel_rfl))<|?_
 refine zm R R<|XL.step R (Af (l':= [.d (dI 0), .d (dI 0), .d (dI 0), .d (dI 0), .d (dI 0), .d (dI 0), .d (dI 0), .d (dI 0), .d (dI 0), .d (dI 0), .d (dI 0), .d (dI 0), .d (dB false), .d (dI 0), .d (dI 0), .d (dI 0), .d (dI 0), .d (dI 0), .d (dI 0), .d (.v (.string ⟨#[]⟩)), .d (.v (.slice none 0 0)), .d (.v (.slice none 0 0))]) R R R R Gt R lb (by kernel_rfl))<|za R R<|zn<|zt<|?_
 exact Ay R (RV.sub (RV.cells R R R Cb lb R) (.agg (.cons (.same R) (.cons (.same R) (.cons (.same R) (.cons (.same R) (.cons (.same R) (.cons (.same R) (.cons (.same R) (.cons (.same R) (.cons (.same R) (.cons (.same R) (.cons (.same R) (.cons (.same R) (.cons (.same R) (.cons (.same R) (.cons (.same R) (.cons (.same R) (.cons (.same R) (.cons (.same R) (.cons (.same R) (.cons (.same R) (.cons (.nil 3) (.cons (.nil 2) (.nil))))))))))))))))))))))))) (RV.tmp R R) (Vh (Ar8 c21 c42))
 refine zi<|zs<|zs<|?_
 have h1:=hF.tempi
 have h2:=hF.cells
 have hO:=Aic c21
 have hP:=Aic (t:=t) (n:=n) c33
 refine Ag (by kernel_rfl)<|XL.freezeP 8 (ds:=Pl.c (plS m.h.m m.h.len)) R (by kernel_rfl) (by kernel_rfl)<|XL.freezeP 11 (ds:=Pl.c (plS t n)) R (by kernel_rfl) (by kernel_rfl)<|zp (Aa R R Cu)<|zp (Ab R R Gu R R)<|zp (Ae (s':= .d (dI m.cells.length)) (Ud R R R Tryz.underlying28) (sI (by rw [List.length_map])))<|zm R R<|zn<|Ah<|?_
 refine Az (α:=Nat) (fun k=>k≤m.cells.length∧J8 (plS m.h.m m.h.len) (plS t n) (m.cells.drop k)=J8 (plS m.h.m m.h.len) (plS t n) m.cells) (fun k=>mkF [(6, .ptr 6 0 0),(8, .d (.pt (Pl.c (plS m.h.m m.h.len)))),(10, .ptr 10 0 0),(11, .d (.pt (Pl.c (plS t n)))),(47, .d (dI m.cells.length)),(48, .d (dI k))]) (fun k=>mkH [(6, .box [.d (dI 0), .d (dI 0), .d (dI 0), .d (dI 0), .d (dI 0), .d (dI 0), .d (dI 0), .d (dI 0), .d (dI 0), .d (dI 0), .d (dI 0), .d (dI 0), .d (dB false), .d (dI 0), .d (dI 0), .d (dI 0), .d (dI 0), .d (dI 0), .d (dI 0), .d (.v (.string ⟨#[]⟩)), .d (.v (.slice none 0 0)), .d (.v (.slice none 0 0))]),(10, .box [.d (dI (m.h.sh t n).site), .d (dI (m.h.sh t n).num), .d (dI (m.h.sh t n).m.count), .d (dI (m.h.sh t n).m.unit), .d (dI (m.h.sh t n).m.g0), .d (dI (m.h.sh t n).m.g1), .d (dI (m.h.sh t n).m.g2), .d (dI (m.h.sh t n).m.g3), .d (dI (m.h.sh t n).m.g4), .d (dI (m.h.sh t n).m.g5), .d (dI (m.h.sh t n).len), .d (dI (m.h.sh t n).fifths), .d (dB (m.h.sh t n).start), .d (dI (m.h.sh t n).fin), .d (dI (m.h.sh t n).ends), .d (dI (m.h.sh t n).jump), .d (dI (m.h.sh t n).labels), .d (dI (m.h.sh t n).swing), .d (dI (m.h.sh t n).brk), .d (.v (.string ⟨(m.h.sh t n).reh.toArray⟩)), .own 7401, .own 7402]),(7401, .row 119 3 ((m.tempi).map Tm.c)),(7402, .tree 78 2 [] (mix Ce.u Ce.t ((m.cells.take k).map (Co (plS m.h.m m.h.len) (plS t n))) (m.cells.drop k)))]) (fun k=>m.cells.length - k) (0) (⟨Nat.zero_le _,R⟩) ?_ ?_ ?_
 exact fz ⟨sr,sr,sr,sr,sr,sr,trivial⟩
 exact gz ⟨R,R,R,R,trivial⟩
 intro k hk0
 obtain ⟨hk,hgo⟩:=hk0
 refine zr<|zp (Ap R R R)<|zn<|zs<|?_
 refine zd R (fun c49=> ?_) (fun c49=> ?_)
 have hk0a:k<m.cells.length:=by omega
 obtain ⟨x0,hx0⟩:=Ax hk0a
 refine zi<|zs<|Ah<|zr<|zm R R<|za R R<|znr<|zp (Aa R R Cu)<|zp (Ab R R Gu R R)<|zm R R<|zp (Ox R R R (R) R Kc (Y1 hk0a))<|zp (At R (by conv=>lhs;whnf))<|?_
 refine zn<|zs<|zs<|?_
 have hcl:=(hF.c x0 (List.mem_of_getElem? hx0)).clefs
 have hvl:=(hF.c x0 (List.mem_of_getElem? hx0)).voices
 refine Akn (i:=7402) (j:=7502) (k:=k) (m:=1) (l':=(mix Ce.u Ce.t ((m.cells.take k).map (Co (plS m.h.m m.h.len) (plS t n))) (m.cells.drop k)).set k [.row 84 2 (((x0.clefs).map Cf.c).map (·.map T.d)), .own 7502]) [] (x0.voices.map Vo.t) R R R (F0 hx0) R (Vos.t_in [] _) (R)<|?_
 refine Sr (i:=7402) (j:=7501) (k:=k) (m:=0) (l':=(mix Ce.u Ce.t ((m.cells.take k).map (Co (plS m.h.m m.h.len) (plS t n))) (m.cells.drop k)).set k [.own 7501, .own 7502]) ((x0.clefs).map Cf.c) R R R (Db (F0 hx0)) R (List.set_set ..)<|Ag (by kernel_rfl)<|zp (Au R (by conv=>lhs;whnf))<|?_
 refine zp (H6 R R)<|zp (Aa R R Cs)<|zp (Ae (s':= .own 7502) (I4 R R Ez R (Db (F0 hx0)) R) R)<|zp (Ae (s':= .d (dI x0.voices.length)) (Ud R R R Tryz.underlying76) (sI (by rw [List.length_map])))<|zm R R<|zn<|Ah<|?_
 refine Az (α:=Nat) (fun j=>j≤x0.voices.length∧It (plS m.h.m m.h.len) (plS t n) (x0.voices.drop j)=It (plS m.h.m m.h.len) (plS t n) x0.voices) (fun j=>mkF [(6, .ptr 6 0 0),(8, .d (.pt (Pl.c (plS m.h.m m.h.len)))),(10, .ptr 10 0 0),(11, .d (.pt (Pl.c (plS t n)))),(13, .ptr 7402 k 0),(47, .d (dI m.cells.length)),(48, .d (dI k)),(59, .d (dI x0.voices.length)),(60, .d (dI j))]) (fun j=>mkH [(6, .box [.d (dI 0), .d (dI 0), .d (dI 0), .d (dI 0), .d (dI 0), .d (dI 0), .d (dI 0), .d (dI 0), .d (dI 0), .d (dI 0), .d (dI 0), .d (dI 0), .d (dB false), .d (dI 0), .d (dI 0), .d (dI 0), .d (dI 0), .d (dI 0), .d (dI 0), .d (.v (.string ⟨#[]⟩)), .d (.v (.slice none 0 0)), .d (.v (.slice none 0 0))]),(10, .box [.d (dI (m.h.sh t n).site), .d (dI (m.h.sh t n).num), .d (dI (m.h.sh t n).m.count), .d (dI (m.h.sh t n).m.unit), .d (dI (m.h.sh t n).m.g0), .d (dI (m.h.sh t n).m.g1), .d (dI (m.h.sh t n).m.g2), .d (dI (m.h.sh t n).m.g3), .d (dI (m.h.sh t n).m.g4), .d (dI (m.h.sh t n).m.g5), .d (dI (m.h.sh t n).len), .d (dI (m.h.sh t n).fifths), .d (dB (m.h.sh t n).start), .d (dI (m.h.sh t n).fin), .d (dI (m.h.sh t n).ends), .d (dI (m.h.sh t n).jump), .d (dI (m.h.sh t n).labels), .d (dI (m.h.sh t n).swing), .d (dI (m.h.sh t n).brk), .d (.v (.string ⟨(m.h.sh t n).reh.toArray⟩)), .own 7401, .own 7402]),(7401, .row 119 3 ((m.tempi).map Tm.c)),(7402, .tree 78 2 [7501,7502] ((mix Ce.u Ce.t ((m.cells.take k).map (Co (plS m.h.m m.h.len) (plS t n))) (m.cells.drop k)).set k [.own 7501, .own 7502])),(7501, .row 84 2 ((x0.clefs).map Cf.c)),(7502, .tree 82 2 [] (mix Vo.u Vo.t ((x0.voices.take j).map (fun v=>(Ea v (plS m.h.m m.h.len) (plS t n)).1)) (x0.voices.drop j)))]) (fun j=>x0.voices.length - j) (0) (⟨Nat.zero_le _,R⟩) ?_ ?_ ?_
 exact fz ⟨sr,sr,sr,sr,sr,sr,sr,sr,sr,trivial⟩
 exact gz ⟨R,R,R,R,R,R,trivial⟩
 intro j hk2
 obtain ⟨hj,hgv⟩:=hk2
 refine zr<|zp (Ap R R R)<|zn<|zs<|?_
 refine zd R (fun c61=> ?_) (fun c61=> ?_)
 have hk2a:j<x0.voices.length:=by omega
 obtain ⟨x2,hx2⟩:=Ax hk2a
 refine zi<|zs<|Ah<|zr<|zm R R<|za R R<|zn<|zs<|?_
 have hfv:=(hF.c x0 (List.mem_of_getElem? hx0)).v x2 (List.mem_of_getElem? hx2)
 have hEv:=hE x0 (List.mem_of_getElem? hx0) x2 (List.mem_of_getElem? hx2)
 have hfl:=hfv.evs
 refine Sr (i:=7502) (j:=7601) (k:=j) (m:=0) (l':=(mix Vo.u Vo.t ((x0.voices.take j).map (fun v=>(Ea v (plS m.h.m m.h.len) (plS t n)).1)) (x0.voices.drop j)).set j [.own 7601, .row 157 4 (((x2.tups).map Tp.c).map (·.map T.d))]) ((x2.evs).map Ev.c) R R R (F0 hx2) R (R)<|?_
 refine Sr (i:=7502) (j:=7602) (k:=j) (m:=1) (l':=(mix Vo.u Vo.t ((x0.voices.take j).map (fun v=>(Ea v (plS m.h.m m.h.len) (plS t n)).1)) (x0.voices.drop j)).set j [.own 7601, .own 7602]) ((x2.tups).map Tp.c) R R R (Db (F0 hx2)) R (List.set_set ..)<|Pj (i:=7602) R<|?_
 refine Xu (i:=7502) (l':=(mix Vo.u Vo.t ((x0.voices.take j).map (fun v=>(Ea v (plS m.h.m m.h.len) (plS t n)).1)) (x0.voices.drop j)).set j [.own 7601, .d (.sl 4 (x2.tups.map Tp.c))]) [7601] R (Uh (Rb [] _ _) R) (D9 (Rb [] _ _) (Gk (R) (R)) _)<|?_
 refine Ad8 14 19 20 (S.kills [900001,7601,5003,5004,5005,5006,5029,900002,7001]) (mkH [(6, .box [.d (dI 0), .d (dI 0), .d (dI 0), .d (dI 0), .d (dI 0), .d (dI 0), .d (dI 0), .d (dI 0), .d (dI 0), .d (dI 0), .d (dI 0), .d (dI 0), .d (dB false), .d (dI 0), .d (dI 0), .d (dI 0), .d (dI 0), .d (dI 0), .d (dI 0), .d (.v (.string ⟨#[]⟩)), .d (.v (.slice none 0 0)), .d (.v (.slice none 0 0))]),(10, .box [.d (dI (m.h.sh t n).site), .d (dI (m.h.sh t n).num), .d (dI (m.h.sh t n).m.count), .d (dI (m.h.sh t n).m.unit), .d (dI (m.h.sh t n).m.g0), .d (dI (m.h.sh t n).m.g1), .d (dI (m.h.sh t n).m.g2), .d (dI (m.h.sh t n).m.g3), .d (dI (m.h.sh t n).m.g4), .d (dI (m.h.sh t n).m.g5), .d (dI (m.h.sh t n).len), .d (dI (m.h.sh t n).fifths), .d (dB (m.h.sh t n).start), .d (dI (m.h.sh t n).fin), .d (dI (m.h.sh t n).ends), .d (dI (m.h.sh t n).jump), .d (dI (m.h.sh t n).labels), .d (dI (m.h.sh t n).swing), .d (dI (m.h.sh t n).brk), .d (.v (.string ⟨(m.h.sh t n).reh.toArray⟩)), .own 7401, .own 7402]),(7401, .row 119 3 ((m.tempi).map Tm.c)),(7402, .tree 78 2 [7501,7502] ((mix Ce.u Ce.t ((m.cells.take k).map (Co (plS m.h.m m.h.len) (plS t n))) (m.cells.drop k)).set k [.own 7501, .own 7502])),(7501, .row 84 2 ((x0.clefs).map Cf.c)),(7502, .tree 82 2 [] ((mix Vo.u Vo.t ((x0.voices.take j).map (fun v=>(Ea v (plS m.h.m m.h.len) (plS t n)).1)) (x0.voices.drop j)).set j [.any, .d (.sl 4 (x2.tups.map Tp.c))]))]) (mkH [(6, .box [.d (dI 0), .d (dI 0), .d (dI 0), .d (dI 0), .d (dI 0), .d (dI 0), .d (dI 0), .d (dI 0), .d (dI 0), .d (dI 0), .d (dI 0), .d (dI 0), .d (dB false), .d (dI 0), .d (dI 0), .d (dI 0), .d (dI 0), .d (dI 0), .d (dI 0), .d (.v (.string ⟨#[]⟩)), .d (.v (.slice none 0 0)), .d (.v (.slice none 0 0))]),(10, .box [.d (dI (m.h.sh t n).site), .d (dI (m.h.sh t n).num), .d (dI (m.h.sh t n).m.count), .d (dI (m.h.sh t n).m.unit), .d (dI (m.h.sh t n).m.g0), .d (dI (m.h.sh t n).m.g1), .d (dI (m.h.sh t n).m.g2), .d (dI (m.h.sh t n).m.g3), .d (dI (m.h.sh t n).m.g4), .d (dI (m.h.sh t n).m.g5), .d (dI (m.h.sh t n).len), .d (dI (m.h.sh t n).fifths), .d (dB (m.h.sh t n).start), .d (dI (m.h.sh t n).fin), .d (dI (m.h.sh t n).ends), .d (dI (m.h.sh t n).jump), .d (dI (m.h.sh t n).labels), .d (dI (m.h.sh t n).swing), .d (dI (m.h.sh t n).brk), .d (.v (.string ⟨(m.h.sh t n).reh.toArray⟩)), .own 7401, .own 7402]),(7401, .row 119 3 ((m.tempi).map Tm.c)),(7402, .tree 78 2 [7501,7502] ((mix Ce.u Ce.t ((m.cells.take k).map (Co (plS m.h.m m.h.len) (plS t n))) (m.cells.drop k)).set k [.own 7501, .own 7502])),(7501, .row 84 2 ((x0.clefs).map Cf.c)),(7502, .tree 82 2 [] ((mix Vo.u Vo.t ((x0.voices.take j).map (fun v=>(Ea v (plS m.h.m m.h.len) (plS t n)).1)) (x0.voices.drop j)).set j [.d (.sl 13 (((Ea x2 (plS m.h.m m.h.len) (plS t n)).1).evs.map Ev.c)), .d (.sl 4 (((Ea x2 (plS m.h.m m.h.len) (plS t n)).1).tups.map Tp.c))]))]) (by kernel_rfl) (by kernel_rfl) (by kernel_rfl) (by kernel_rfl)<|?_
 refine ChFK.fr R R (CStep.pure (Au R (by conv=>lhs;whnf))) (CStep.pure (Au R (by conv=>lhs;whnf))) (by exact rfl)<|?_
 refine ChFK.fr R R (CStep.pure (H6 R R)) (CStep.pure (H6 R R)) (by exact rfl)<|ChFK.fr R R (CStep.pure (Aa R R Cs)) (CStep.pure (Aa R R Cs)) (by exact rfl)<|?_
 refine ChFK.fr R R (CStep.pure (Ae (s':= .own 7502) (I4 R R Ez R (Db (F0 hx0)) R) R)) (CStep.pure (Ae (s':= .own 7502) (I4 R R Ez R (Db (F0 hx0)) R) R)) (by exact rfl)<|ChFK.fr R R (CStep.pure (Au R (by conv=>lhs;whnf))) (CStep.pure (Au R (by conv=>lhs;whnf))) (by exact rfl)<|?_
 refine ChFK.bf R (CStep.pure (Au R (by conv=>lhs;whnf))) (by conv=>lhs;whnf)<|?_
 refine ChFK.bf R (CStep.pure (H6 R R)) (by conv=>lhs;whnf)<|?_
 refine ChFK.bf R (CStep.pure (Aa R R Cs)) (by conv=>lhs;whnf)<|?_
 refine ChFK.bf R (CStep.pure (Ae (s':= .own 7502) (I4 R R Ez R (Db (F0 hx0)) R) R)) (by conv=>lhs;whnf)<|?_
 refine ChFK.bf R (CStep.pure (Au R (by conv=>lhs;whnf))) (by conv=>lhs;whnf)<|?_
 refine ChFK.bf R (CStep.pure (Ox R R R (R) R Kb (Ah0 (Y1 hk2a)))) (by conv=>lhs;whnf)<|?_
 refine ChFK.bf R (CStep.pure (Ae (s':=(.agg [.own 7601, .d (.sl 4 (x2.tups.map Tp.c))])) (Yu R R As R (Db (F0 hx2)) lb) (by kernel_rfl))) (by conv=>lhs;whnf)<|?_
 refine ChFK.bf R (CStep.pure (Ae (s':= .d (.agg (Pl.c (plS m.h.m m.h.len)))) (A8 R R Gf lb) (by kernel_rfl))) (by conv=>lhs;whnf)<|?_
 refine ChFK.bf R (CStep.pure (Ae (s':= .d (.agg (Pl.c (plS t n)))) (A8 R R Gf lb) (by kernel_rfl))) (by conv=>lhs;whnf)<|?_
 refine ChFK.mu R (Asy 900001 [7601,5003,5004,5005,5006,5029,900002,7001] (.d (.tup [.agg (Vo.c (Ea x2 (plS m.h.m m.h.len) (plS t n)).1),dI (Ea x2 (plS m.h.m m.h.len) (plS t n)).2])) (mkH [(6, .box [.d (dI 0), .d (dI 0), .d (dI 0), .d (dI 0), .d (dI 0), .d (dI 0), .d (dI 0), .d (dI 0), .d (dI 0), .d (dI 0), .d (dI 0), .d (dI 0), .d (dB false), .d (dI 0), .d (dI 0), .d (dI 0), .d (dI 0), .d (dI 0), .d (dI 0), .d (.v (.string ⟨#[]⟩)), .d (.v (.slice none 0 0)), .d (.v (.slice none 0 0))]),(10, .box [.d (dI (m.h.sh t n).site), .d (dI (m.h.sh t n).num), .d (dI (m.h.sh t n).m.count), .d (dI (m.h.sh t n).m.unit), .d (dI (m.h.sh t n).m.g0), .d (dI (m.h.sh t n).m.g1), .d (dI (m.h.sh t n).m.g2), .d (dI (m.h.sh t n).m.g3), .d (dI (m.h.sh t n).m.g4), .d (dI (m.h.sh t n).m.g5), .d (dI (m.h.sh t n).len), .d (dI (m.h.sh t n).fifths), .d (dB (m.h.sh t n).start), .d (dI (m.h.sh t n).fin), .d (dI (m.h.sh t n).ends), .d (dI (m.h.sh t n).jump), .d (dI (m.h.sh t n).labels), .d (dI (m.h.sh t n).swing), .d (dI (m.h.sh t n).brk), .d (.v (.string ⟨(m.h.sh t n).reh.toArray⟩)), .own 7401, .own 7402]),(7401, .row 119 3 ((m.tempi).map Tm.c)),(7402, .tree 78 2 [7501,7502] ((mix Ce.u Ce.t ((m.cells.take k).map (Co (plS m.h.m m.h.len) (plS t n))) (m.cells.drop k)).set k [.own 7501, .own 7502])),(7501, .row 84 2 ((x0.clefs).map Cf.c)),(7502, .tree 82 2 [] ((mix Vo.u Vo.t ((x0.voices.take j).map (fun v=>(Ea v (plS m.h.m m.h.len) (plS t n)).1)) (x0.voices.drop j)).set j [.any, .d (.sl 4 (x2.tups.map Tp.c))]))]) R .d Adj Tryz.func63 R R lb (fun u1 fp1=> ?_)) ?_
 refine Akq (i:=7502) (k:=j) (m:=0) (l':=(mix Vo.u Vo.t ((x0.voices.take j).map (fun v=>(Ea v (plS m.h.m m.h.len) (plS t n)).1)) (x0.voices.drop j)).set j [.any, .d (.sl 4 (x2.tups.map Tp.c))]) [] R (Db (F0 hx2)) R (List.set_set ..) (D9 (Rb [] _ _) (Gk (R) (R)) _)<|zr<|XL.step R (Ar 5003 (l:= [.own 7601, .d (.sl 4 (x2.tups.map Tp.c))]) R R (by kernel_rfl))<|?_
 refine XL.step R (Ar 5004 (l:= [.d (dI (plS m.h.m m.h.len).m.count), .d (dI (plS m.h.m m.h.len).m.unit), .d (dI (plS m.h.m m.h.len).m.g0), .d (dI (plS m.h.m m.h.len).m.g1), .d (dI (plS m.h.m m.h.len).m.g2), .d (dI (plS m.h.m m.h.len).m.g3), .d (dI (plS m.h.m m.h.len).m.g4), .d (dI (plS m.h.m m.h.len).m.g5), .d (dI (plS m.h.m m.h.len).off), .d (dI (plS m.h.m m.h.len).len)]) R R (by kernel_rfl))<|?_
 refine XL.step R (Ar 5005 (l:= [.d (dI (plS t n).m.count), .d (dI (plS t n).m.unit), .d (dI (plS t n).m.g0), .d (dI (plS t n).m.g1), .d (dI (plS t n).m.g2), .d (dI (plS t n).m.g3), .d (dI (plS t n).m.g4), .d (dI (plS t n).m.g5), .d (dI (plS t n).off), .d (dI (plS t n).len)]) R R (by kernel_rfl))<|?_
 refine XL.step R (Al 5006 (l:= [.d (.v (.slice none 0 0)), .d (.v (.slice none 0 0))]) R Bc (by kernel_rfl))<|za R R<|znr<|za R R<|zn<|zs<|Ah<|zr<|zp (Ac (Ad R R As R lb))<|?_
 refine XL.inl 900002 [(3, .ptr 5003 0 0),(4, .ptr 5004 0 0),(5, .ptr 5005 0 0),(6, .ptr 5006 0 0),(7, .d (dI 0)),(8, .d (dI 0))] R R .d Sk Tryz.func56 R R lb (by simp only [List.forall_mem_cons];exact ⟨⟨Nat.le_of_ble_eq_true rfl,rfl⟩,⟨⟨Nat.le_of_ble_eq_true rfl,rfl⟩,⟨⟨Nat.le_of_ble_eq_true rfl,rfl⟩,⟨⟨Nat.le_of_ble_eq_true rfl,rfl⟩,⟨⟨Nat.le_of_ble_eq_true rfl,rfl⟩,⟨⟨Nat.le_of_ble_eq_true rfl,rfl⟩,fun p hp=>(by cases hp)⟩⟩⟩⟩⟩⟩) fun u2=>?_
 refine zr<|XL.step R (Ar 7001 (l:= [.own 7601, .d (.sl 4 (x2.tups.map Tp.c))]) R R (by kernel_rfl))<|za R R<|znr<|zp (Aa R R Bp)<|zp (Ab R R C6 R R)<|zp (Bz R R R Tryz.underlying79)<|zp (A4 R R R)<|za R R<|zn<|zt<|?_
 refine (Dw (l:= [(3, .ptr 5003 0 0),(4, .ptr 5004 0 0),(5, .ptr 5005 0 0),(6, .ptr 5006 0 0),(7, .d (dI 0)),(8, .d (dI 0))]) (by kernel_rfl) (rs1 R (RV.tmp R R)) ?_).2
 refine zp (E6 R R)<|zm R R<|?_
 refine XL.dec 35 R (fun g35i=> ?_) (fun g35i=> ?_)
 refine zk 5 R<|zq R R R<|zm R R<|zk 12 R<|zq R R R<|za R R<|zn<|Aw (by kernel_rfl) R<|zr<|XL.freeze (i:=7601) R<|zp (Ae (s':= .d (.agg [.sl 13 (x2.evs.map Ev.c), .sl 4 (x2.tups.map Tp.c)])) (Ac (Ad R R As R lb)) (by kernel_rfl))<|XL.step R (Af (l':= [.d (.sl 13 (x2.evs.map Ev.c)), .d (.sl 4 (x2.tups.map Tp.c))]) R R R R Bm R lb (by kernel_rfl))<|za R R<|zn<|?_
 refine zt<|?_
 exact J5 R (by repeat (first|exact GL.z|refine GL.k ?_ rfl|refine GL.f ?_ rfl|refine GL.p ?_ rfl)) (Ju (rs2 R (RV.cells R R R As lb R) (RV.tmp R R)) (congrArg S.d (Mz (Amg (by unfold Vo.same;omega))))) (gz ⟨R,R,R,R,R,R,trivial⟩)
 refine zp (Aa R R Cp)<|zp (Ab R R Ai R R)<|zp (Aa R R Cp)<|zp (Ab R R Ai R R)<|zp (Ba R R R)<|zq R R R<|zm R R<|?_
 refine XL.dec 42 R (fun g42i=> ?_) (fun g42i=> ?_)
 refine zk 12 R<|zq R R R<|za R R<|zn<|Aw (by kernel_rfl) R<|zr<|XL.freeze (i:=7601) R<|zp (Ae (s':= .d (.agg [.sl 13 (x2.evs.map Ev.c), .sl 4 (x2.tups.map Tp.c)])) (Ac (Ad R R As R lb)) (by kernel_rfl))<|XL.step R (Af (l':= [.d (.sl 13 (x2.evs.map Ev.c)), .d (.sl 4 (x2.tups.map Tp.c))]) R R R R Bm R lb (by kernel_rfl))<|za R R<|zn<|zt<|?_
 exact J5 R (by repeat (first|exact GL.z|refine GL.k ?_ rfl|refine GL.f ?_ rfl|refine GL.p ?_ rfl)) (Ju (rs2 R (RV.cells R R R As lb R) (RV.tmp R R)) (congrArg S.d (Mz (Amg (by unfold Vo.same;omega))))) (gz ⟨R,R,R,R,R,R,trivial⟩)
 refine zp (Aa R R Bp)<|zp (Ab R R C6 R R)<|zp (Bz R R R Tryz.underlying79)<|zp (Ba R R R)<|zm R R<|?_
 refine XL.dec 47 R (fun g47i=> ?_) (fun g47i=> ?_)
 obtain ⟨e0,he0⟩:∃e,x2.evs[0]? =some e:=Ax (by omega)
 have hwh:=Kh he0
 refine zp (Aa R R Bp)<|zp (Ab R R C6 R R)<|zp (Cn R R R ((R:(0:Int)=((0:Nat):Int))) R Hy (by first|omega|(simp only [List.length_map];omega)))<|zp (Aa R R Dc)<|zp (Io R R Ai R (C7 he0) R)<|zp (Ba R R R)<|zq R R R<|zq R R R<|za R R<|zn<|?_
 refine zd R (fun c31i=> ?_) (fun c31i=> ?_)
 refine zr<|XL.freeze (i:=7601) R<|zp (Ae (s':= .d (.agg [.sl 13 (x2.evs.map Ev.c), .sl 4 (x2.tups.map Tp.c)])) (Ac (Ad R R As R lb)) (by kernel_rfl))<|XL.step R (Af (l':= [.d (.sl 13 (x2.evs.map Ev.c)), .d (.sl 4 (x2.tups.map Tp.c))]) R R R R Bm R lb (by kernel_rfl))<|za R R<|zn<|zt<|?_
 exact J5 R (by repeat (first|exact GL.z|refine GL.k ?_ rfl|refine GL.f ?_ rfl|refine GL.p ?_ rfl)) (Ju (rs2 R (RV.cells R R R As lb R) (RV.tmp R R)) (congrArg S.d (Mz (Amg (.inr (.inr ⟨by omega,hwh.2 (by omega)⟩)))))) (gz ⟨rfl,rfl,rfl,rfl,rfl,rfl,trivial⟩)
 refine zr<|zp (Aa R R Cp)<|zp (Ab R R Ai R R)<|zp (Aa R R Cp)<|zp (Ab R R Ai R R)<|zp (Ap R R R)<|za R R<|zn<|?_
 refine zd R (fun c57i=> ?_) (fun c57i=> ?_)
 refine Ag (by kernel_rfl)<|XL.freeze (i:=7601) R<|zp (Ae (s':= .d (.agg (Vo.c x2))) (Ac (Ad R R As R lb)) (by kernel_rfl))<|zp (Ae (s':= .d (.agg (Pl.c (plS m.h.m m.h.len)))) (Ac (Ad R R Gf R lb)) (by kernel_rfl))<|zp (Aa R R Cp)<|zp (Ab R R Ai R R)<|XL.call1 R R (Aj5 _ _ _ _ (by assumption) (by assumption)) R<|?_
 refine zm R R<|zp (Ao R R R)<|zp (Ao R R R)<|XL.step R (Af (l':= [.d (.sl 13 (((Eg x2 (plS m.h.m m.h.len) 0 ((plS t n).len)).1).evs.map Ev.c)), .d (.sl 4 (((Eg x2 (plS m.h.m m.h.len) 0 ((plS t n).len)).1).tups.map Tp.c))]) R R R R Bm R lb (by kernel_rfl))<|za R R<|zn<|zs<|zr<|zm R R<|zp (A1 R R R)<|zn<|?_
 refine zd R (fun c72i=> ?_) (fun c72i=> ?_)
 refine zr<|zp (Ae (s':= .d (.agg [.v (.slice none 0 0), .v (.slice none 0 0)])) (Ac (A0 R Cx Bc R)) (by kernel_rfl))<|zm R R<|XL.step R (Af (l':= [.d (.v (.slice none 0 0)), .d (.v (.slice none 0 0))]) R R R R Bm R lb (by kernel_rfl))<|za R R<|zn<|zt<|?_
 exact J5 R (by repeat (first|exact GL.z|refine GL.k ?_ rfl|refine GL.f ?_ rfl|refine GL.p ?_ rfl)) (Ju (rs2 R (RV.sub (RV.cells R R R As lb R) (.agg (.cons (.nil 13) (.cons (.nil 4) (.nil))))) (RV.tmp R R)) (congrArg S.d (Mz (Ar6 (by unfold Vo.same;rw [hwh];omega) c57i c72i)))) (gz ⟨R,R,R,R,R,R,trivial⟩)
 refine zi<|zs<|?_
 have hEc:=(Zy (v:=x2) (p:=(plS m.h.m m.h.len)) (a:=0) (b:=(plS t n).len) (by omega) hfv).1
 refine Cm 5 [] (by kernel_rfl) (by kernel_rfl) (by kernel_rfl) (by kernel_rfl) (by decide)<|yp (Ae (s':= .d (.agg (Vo.c (Eg x2 (plS m.h.m m.h.len) 0 ((plS t n).len)).1))) (Ac (Ad R R As R lb)) (by kernel_rfl))<|yp (Ae (s':= .d (.agg (Vo.c (Eg x2 (plS m.h.m m.h.len) 0 ((plS t n).len)).1))) (Ac (Ad R R As R lb)) (by kernel_rfl))<|?_
 refine yp (Aa R R Cp)<|yp (Ab R R Ai R R)<|ChK.cons R (CStep.call R (Ji _ _ (by assumption)) R)<|?_
 refine ChK.nil ⟨by kernel_rfl, ?_⟩
 refine XL.step R (Af (l':= [.d (.sl 13 (((Eg x2 (plS m.h.m m.h.len) 0 ((plS t n).len)).1).evs.map Ev.c)), .d (.sl 4 (((Eg x2 (plS m.h.m m.h.len) 0 ((plS t n).len)).1).tups.map Tp.c))]) R R R R Bm R lb (by kernel_rfl))<|za R R<|zn<|zt<|?_
 exact J5 R (by repeat (first|exact GL.z|refine GL.k ?_ rfl|refine GL.f ?_ rfl|refine GL.p ?_ rfl)) (Ju (rs2 R (RV.cells R R R As lb R) (RV.tmp R R)) (congrArg S.d (Mz (Ar5 (by unfold Vo.same;rw [hwh];omega) c57i c72i)))) (gz ⟨R,R,R,R,R,R,trivial⟩)
 refine zr<|za R R<|zn<|zs<|?_
 have hrl:=V4 (plS t n).m ((plS t n).off+(plS m.h.m m.h.len).len) ((plS t n).off+(plS t n).len)
 refine Ag (by kernel_rfl)<|zp (Aa R R M3)<|zp (Ae (s':= .d (.agg (Me.c (plS t n).m))) (Ac (Ad R R Bk R lb)) (by kernel_rfl))<|zp (Aa R R Gn)<|zp (Ab R R Ai R R)<|zp (Aa R R Cp)<|zp (Ab R R Ai R R)<|zp (Am R R R (by omega) (by omega))<|zp (Aa R R Gn)<|zp (Ab R R Ai R R)<|?_
 refine zp (Aa R R Cp)<|zp (Ab R R Ai R R)<|zp (Am R R R (by omega) (by omega))<|XL.call1 R R (Yn _ _ _) R<|zm R R<|zp (Ao R R R)<|zp (Ao R R R)<|za R R<|za R R<|zng<|zp (Aa R R Bp)<|zp (Ab R R C6 R R)<|zm R R<|XL.step R (A6 R Gd (.own R) (Src.sl (by omega)) (by unfold maxLen;simp;omega) (by simp;omega))<|?_
 refine XL.rowq (i:=7601) (l':=(x2.evs++H4 (plS t n).m ((plS t n).off+(plS m.h.m m.h.len).len) ((plS t n).off+(plS t n).len)).map Ev.c) R (Rd)<|zp (Aa R R Bp)<|XL.step R (Af (l':= [.own 7601, .d (.sl 4 (x2.tups.map Tp.c))]) R R R R Q4 R lb (by kernel_rfl))<|zn<|zs<|zr<|zm R R<|zp (A1 R R R)<|zn<|?_
 refine zd R (fun c72i=> ?_) (fun c72i=> ?_)
 refine zr<|zp (Ae (s':= .d (.agg [.v (.slice none 0 0), .v (.slice none 0 0)])) (Ac (A0 R Cx Bc R)) (by kernel_rfl))<|zm R R<|XL.step R (Af (l':= [.d (.v (.slice none 0 0)), .d (.v (.slice none 0 0))]) R R R R Bm R lb (by kernel_rfl))<|za R R<|zn<|zt<|?_
 exact J5 R (by repeat (first|exact GL.z|refine GL.k ?_ rfl|refine GL.f ?_ rfl|refine GL.p ?_ rfl)) (Ju (rs2 R (RV.sub (RV.cells R R R As lb R) (.agg (.cons (.nil 13) (.cons (.nil 4) (.nil))))) (RV.tmp R R)) (congrArg S.d (Mz (Ar4 (by unfold Vo.same;rw [hwh];omega) c57i c72i)))) (gz ⟨R,R,R,R,R,R,trivial⟩)
 refine zi<|zs<|?_
 have hEc:=Ae4 hEv (V5 (plS t n).m ((plS t n).off+(plS m.h.m m.h.len).len) ((plS t n).off+(plS t n).len))
 refine Pj (i:=7601) R<|Cm 5 [] (by kernel_rfl) (by kernel_rfl) (by kernel_rfl) (by kernel_rfl) (by decide)<|yp (Ae (s':= .d (.agg (Vo.c (Lq x2 (plS m.h.m m.h.len) (plS t n))))) (Ac (Ad R R As R lb)) (by kernel_rfl))<|yp (Ae (s':= .d (.agg (Vo.c (Lq x2 (plS m.h.m m.h.len) (plS t n))))) (Ac (Ad R R As R lb)) (by kernel_rfl))<|?_
 refine yp (Aa R R Cp)<|yp (Ab R R Ai R R)<|ChK.cons R (CStep.call R (Ji _ _ (by assumption)) R)<|?_
 refine ChK.nil ⟨by kernel_rfl, ?_⟩
 refine XL.step R (Af (l':= [.d (.sl 13 ((Lq x2 (plS m.h.m m.h.len) (plS t n)).evs.map Ev.c)), .d (.sl 4 ((Lq x2 (plS m.h.m m.h.len) (plS t n)).tups.map Tp.c))]) R R R R Bm R lb (by kernel_rfl))<|za R R<|zn<|zt<|?_
 exact J5 R (by repeat (first|exact GL.z|refine GL.k ?_ rfl|refine GL.f ?_ rfl|refine GL.p ?_ rfl)) (Ju (rs2 R (RV.cells R R R As lb R) (RV.tmp R R)) (congrArg S.d (Mz (Ar3 (by unfold Vo.same;rw [hwh];omega) c57i c72i)))) (gz ⟨R,R,R,R,R,R,trivial⟩)
 refine zk 6 R<|zq R R R<|zq R R R<|za R R<|zn<|A3 (by kernel_rfl) R<|zr<|zp (Aa R R Cp)<|zp (Ab R R Ai R R)<|zp (Aa R R Cp)<|zp (Ab R R Ai R R)<|zp (Ap R R R)<|za R R<|zn<|?_
 refine zd R (fun c57i=> ?_) (fun c57i=> ?_)
 refine Ag (by kernel_rfl)<|XL.freeze (i:=7601) R<|zp (Ae (s':= .d (.agg (Vo.c x2))) (Ac (Ad R R As R lb)) (by kernel_rfl))<|zp (Ae (s':= .d (.agg (Pl.c (plS m.h.m m.h.len)))) (Ac (Ad R R Gf R lb)) (by kernel_rfl))<|zp (Aa R R Cp)<|zp (Ab R R Ai R R)<|XL.call1 R R (Aj5 _ _ _ _ (by assumption) (by assumption)) R<|?_
 refine zm R R<|zp (Ao R R R)<|zp (Ao R R R)<|XL.step R (Af (l':= [.d (.sl 13 (((Eg x2 (plS m.h.m m.h.len) 0 ((plS t n).len)).1).evs.map Ev.c)), .d (.sl 4 (((Eg x2 (plS m.h.m m.h.len) 0 ((plS t n).len)).1).tups.map Tp.c))]) R R R R Bm R lb (by kernel_rfl))<|za R R<|zn<|zs<|zr<|zm R R<|zp (A1 R R R)<|zn<|?_
 refine zd R (fun c72i=> ?_) (fun c72i=> ?_)
 refine zr<|zp (Ae (s':= .d (.agg [.v (.slice none 0 0), .v (.slice none 0 0)])) (Ac (A0 R Cx Bc R)) (by kernel_rfl))<|zm R R<|XL.step R (Af (l':= [.d (.v (.slice none 0 0)), .d (.v (.slice none 0 0))]) R R R R Bm R lb (by kernel_rfl))<|za R R<|zn<|zt<|?_
 exact J5 R (by repeat (first|exact GL.z|refine GL.k ?_ rfl|refine GL.f ?_ rfl|refine GL.p ?_ rfl)) (Ju (rs2 R (RV.sub (RV.cells R R R As lb R) (.agg (.cons (.nil 13) (.cons (.nil 4) (.nil))))) (RV.tmp R R)) (congrArg S.d (Mz (Ar6 (by unfold Vo.same;omega) c57i c72i)))) (gz ⟨R,R,R,R,R,R,trivial⟩)
 refine zi<|zs<|?_
 have hEc:=(Zy (v:=x2) (p:=(plS m.h.m m.h.len)) (a:=0) (b:=(plS t n).len) (by omega) hfv).1
 refine Cm 5 [] (by kernel_rfl) (by kernel_rfl) (by kernel_rfl) (by kernel_rfl) (by decide)<|yp (Ae (s':= .d (.agg (Vo.c (Eg x2 (plS m.h.m m.h.len) 0 ((plS t n).len)).1))) (Ac (Ad R R As R lb)) (by kernel_rfl))<|yp (Ae (s':= .d (.agg (Vo.c (Eg x2 (plS m.h.m m.h.len) 0 ((plS t n).len)).1))) (Ac (Ad R R As R lb)) (by kernel_rfl))<|?_
 refine yp (Aa R R Cp)<|yp (Ab R R Ai R R)<|ChK.cons R (CStep.call R (Ji _ _ (by assumption)) R)<|?_
 refine ChK.nil ⟨by kernel_rfl, ?_⟩
 refine XL.step R (Af (l':= [.d (.sl 13 (((Eg x2 (plS m.h.m m.h.len) 0 ((plS t n).len)).1).evs.map Ev.c)), .d (.sl 4 (((Eg x2 (plS m.h.m m.h.len) 0 ((plS t n).len)).1).tups.map Tp.c))]) R R R R Bm R lb (by kernel_rfl))<|za R R<|zn<|zt<|?_
 exact J5 R (by repeat (first|exact GL.z|refine GL.k ?_ rfl|refine GL.f ?_ rfl|refine GL.p ?_ rfl)) (Ju (rs2 R (RV.cells R R R As lb R) (RV.tmp R R)) (congrArg S.d (Mz (Ar5 (by unfold Vo.same;omega) c57i c72i)))) (gz ⟨R,R,R,R,R,R,trivial⟩)
 refine zr<|za R R<|zn<|zs<|?_
 have hrl:=V4 (plS t n).m ((plS t n).off+(plS m.h.m m.h.len).len) ((plS t n).off+(plS t n).len)
 refine Ag (by kernel_rfl)<|zp (Aa R R M3)<|zp (Ae (s':= .d (.agg (Me.c (plS t n).m))) (Ac (Ad R R Bk R lb)) (by kernel_rfl))<|zp (Aa R R Gn)<|zp (Ab R R Ai R R)<|zp (Aa R R Cp)<|zp (Ab R R Ai R R)<|zp (Am R R R (by omega) (by omega))<|zp (Aa R R Gn)<|zp (Ab R R Ai R R)<|?_
 refine zp (Aa R R Cp)<|zp (Ab R R Ai R R)<|zp (Am R R R (by omega) (by omega))<|XL.call1 R R (Yn _ _ _) R<|zm R R<|zp (Ao R R R)<|zp (Ao R R R)<|za R R<|za R R<|zng<|zp (Aa R R Bp)<|zp (Ab R R C6 R R)<|zm R R<|XL.step R (A6 R Gd (.own R) (Src.sl (by omega)) (by unfold maxLen;simp;omega) (by simp;omega))<|?_
 refine XL.rowq (i:=7601) (l':=(x2.evs++H4 (plS t n).m ((plS t n).off+(plS m.h.m m.h.len).len) ((plS t n).off+(plS t n).len)).map Ev.c) R (Rd)<|zp (Aa R R Bp)<|XL.step R (Af (l':= [.own 7601, .d (.sl 4 (x2.tups.map Tp.c))]) R R R R Q4 R lb (by kernel_rfl))<|zn<|zs<|zr<|zm R R<|zp (A1 R R R)<|zn<|?_
 refine zd R (fun c72i=> ?_) (fun c72i=> ?_)
 refine zr<|zp (Ae (s':= .d (.agg [.v (.slice none 0 0), .v (.slice none 0 0)])) (Ac (A0 R Cx Bc R)) (by kernel_rfl))<|zm R R<|XL.step R (Af (l':= [.d (.v (.slice none 0 0)), .d (.v (.slice none 0 0))]) R R R R Bm R lb (by kernel_rfl))<|za R R<|zn<|zt<|?_
 exact J5 R (by repeat (first|exact GL.z|refine GL.k ?_ rfl|refine GL.f ?_ rfl|refine GL.p ?_ rfl)) (Ju (rs2 R (RV.sub (RV.cells R R R As lb R) (.agg (.cons (.nil 13) (.cons (.nil 4) (.nil))))) (RV.tmp R R)) (congrArg S.d (Mz (Ar4 (by unfold Vo.same;omega) c57i c72i)))) (gz ⟨R,R,R,R,R,R,trivial⟩)
 refine zi<|zs<|?_
 have hEc:=Ae4 hEv (V5 (plS t n).m ((plS t n).off+(plS m.h.m m.h.len).len) ((plS t n).off+(plS t n).len))
 refine Pj (i:=7601) R<|Cm 5 [] (by kernel_rfl) (by kernel_rfl) (by kernel_rfl) (by kernel_rfl) (by decide)<|yp (Ae (s':= .d (.agg (Vo.c (Lq x2 (plS m.h.m m.h.len) (plS t n))))) (Ac (Ad R R As R lb)) (by kernel_rfl))<|yp (Ae (s':= .d (.agg (Vo.c (Lq x2 (plS m.h.m m.h.len) (plS t n))))) (Ac (Ad R R As R lb)) (by kernel_rfl))<|?_
 refine yp (Aa R R Cp)<|yp (Ab R R Ai R R)<|ChK.cons R (CStep.call R (Ji _ _ (by assumption)) R)<|?_
 refine ChK.nil ⟨by kernel_rfl, ?_⟩
 refine XL.step R (Af (l':= [.d (.sl 13 ((Lq x2 (plS m.h.m m.h.len) (plS t n)).evs.map Ev.c)), .d (.sl 4 ((Lq x2 (plS m.h.m m.h.len) (plS t n)).tups.map Tp.c))]) R R R R Bm R lb (by kernel_rfl))<|za R R<|zn<|zt<|?_
 exact J5 R (by repeat (first|exact GL.z|refine GL.k ?_ rfl|refine GL.f ?_ rfl|refine GL.p ?_ rfl)) (Ju (rs2 R (RV.cells R R R As lb R) (RV.tmp R R)) (congrArg S.d (Mz (Ar3 (by unfold Vo.same;omega) c57i c72i)))) (gz ⟨R,R,R,R,R,R,trivial⟩)
 refine ChFK.af R (CStep.pure (Au R (by conv=>lhs;whnf)))<|?_
 refine ChFK.af R (CStep.pure (Ao R R R))<|ChFK.fl R (CStep.pure (Ao R R R)) (CStep.pure (Ao R R R))<|ChFK.af R (CStep.pure (Ox R R R (R) R Kb (Ah0 (Y1 hk2a))))<|?_
 refine ChFK.st R (Zp [] (l':=(mix Vo.u Vo.t ((x0.voices.take j).map (fun v=>(Ea v (plS m.h.m m.h.len) (plS t n)).1)) (x0.voices.drop j)).set j [.d (.sl 13 (((Ea x2 (plS m.h.m m.h.len) (plS t n)).1).evs.map Ev.c)), .d (.sl 4 (((Ea x2 (plS m.h.m m.h.len) (plS t n)).1).tups.map Tp.c))]) R R R (Db (F0 hx2)) R Bm R lb R R (List.set_set ..) (gz ⟨R,R,R,R,R,R,trivial⟩))<|?_
 refine ChFK.nil ⟨⟨by kernel_rfl,by kernel_rfl,by kernel_rfl⟩, ?_⟩
 refine XL.rowqT (i:=7502) (l':=mix Vo.u Vo.t ((x0.voices.take (j+1)).map (fun v=>(Ea v (plS m.h.m m.h.len) (plS t n)).1)) (x0.voices.drop (j+1))) [] R (S4 hx2) (Rb [] _ _)<|za R R<|znr<|zm R R<|zp (A1 R R R)<|zn<|?_
 refine zd R (fun c83=> ?_) (fun c83=> ?_)
 refine zr<|?_
 refine zp (Ae (s':= .d (.agg [dI 0,dI 0,dI 0,dI 0,dI 0,dI 0,dI 0,dI 0,dI 0,dI 0,dI 0,dI 0,dB false,dI 0,dI 0,dI 0,dI 0,dI 0,dI 0, .v (.string ⟨#[]⟩), .v (.slice none 0 0), .v (.slice none 0 0)])) (Ac (A0 (r:= [.d (dI 0), .d (dI 0), .d (dI 0), .d (dI 0), .d (dI 0), .d (dI 0), .d (dI 0), .d (dI 0), .d (dI 0), .d (dI 0), .d (dI 0), .d (dI 0), .d (dB false), .d (dI 0), .d (dI 0), .d (dI 0), .d (dI 0), .d (dI 0), .d (dI 0), .d (.v (.string ⟨#[]⟩)), .d (.v (.slice none 0 0)), .d (.v (.slice none 0 0))]) R Ps F7 (by kernel_rfl))) (by kernel_rfl))<|?_
 refine zm R R<|XL.step R (Af (l':= [.d (dI 0), .d (dI 0), .d (dI 0), .d (dI 0), .d (dI 0), .d (dI 0), .d (dI 0), .d (dI 0), .d (dI 0), .d (dI 0), .d (dI 0), .d (dI 0), .d (dB false), .d (dI 0), .d (dI 0), .d (dI 0), .d (dI 0), .d (dI 0), .d (dI 0), .d (.v (.string ⟨#[]⟩)), .d (.v (.slice none 0 0)), .d (.v (.slice none 0 0))]) R R R R Gt R lb (by kernel_rfl))<|za R R<|zn<|zt<|?_
 exact Ay R (RV.sub (RV.cells R R R Cb lb R) (.agg (.cons (.same R) (.cons (.same R) (.cons (.same R) (.cons (.same R) (.cons (.same R) (.cons (.same R) (.cons (.same R) (.cons (.same R) (.cons (.same R) (.cons (.same R) (.cons (.same R) (.cons (.same R) (.cons (.same R) (.cons (.same R) (.cons (.same R) (.cons (.same R) (.cons (.same R) (.cons (.same R) (.cons (.same R) (.cons (.same R) (.cons (.nil 3) (.cons (.nil 2) (.nil))))))))))))))))))))))))) (RV.tmp R R) (Vh (At9 c21 c33 (by first|exact hgo.symm.trans ((Amn hx0 (by rw [←hgv,Zn hx2 (by omega)];omega)).trans (by rw [←hgv,Zn hx2 (by omega)]))) (by omega)))
 refine zi<|Ag (by kernel_rfl)<|zp (Am R R R (by omega) (by omega))<|zm R R<|zn<|?_
 exact An (j+1) (⟨by omega,by rw [←Amm hx2 (by omega)];exact hgv⟩) (by omega) (fz ⟨sr,sr,sr,sr,sr,sr,sr,sr,sr,trivial⟩) (gz ⟨rfl,rfl,rfl,rfl,rfl,rfl,trivial⟩)
 have hk2b:j=x0.voices.length:=by omega
 refine Av<|Afh (i:=7502) R (Aph _ _) (by rw [Ars,hk2b,List.take_length,List.drop_length,List.append_nil])<|?_
 refine Xu (i:=7402) (l':=(mix Ce.u Ce.t ((m.cells.take k).map (Co (plS m.h.m m.h.len) (plS t n))) (m.cells.drop k)).set k [.own 7501, .d (.sl 2 (((Co (plS m.h.m m.h.len) (plS t n)) x0).voices.map Vo.c))]) [7501] R (Uh (Iq [] _ _) R) (D9 (Iq [] _ _) (Gk (R) (R)) _)<|Ag (by kernel_rfl)<|zp (Au R (by conv=>lhs;whnf))<|?_
 refine zp (Au R (by conv=>lhs;whnf))<|?_
 refine zp (H6 R R)<|zp (Aa R R Ee)<|zp (Ae (s':= .own 7501) (I4 R R I7 R (Db (F0 hx0)) R) R)<|?_
 refine XL.blurT (i:=7402) (k:=k) (m:=0) (l':=(mix Ce.u Ce.t ((m.cells.take k).map (Co (plS m.h.m m.h.len) (plS t n))) (m.cells.drop k)).set k [.any, .d (.sl 2 (((Co (plS m.h.m m.h.len) (plS t n)) x0).voices.map Vo.c))]) [] R (Db (F0 hx0)) R (List.set_set ..) (D9 (Iq [] _ _) (Gk (R) (R)) _)<|zp (Oy (pd:= []) (cd:= [_]) R R R)<|?_
 refine XL.inl 900003 [(6, .ptr 6 0 0),(8, .d (.pt (Pl.c (plS m.h.m m.h.len)))),(10, .ptr 10 0 0),(11, .d (.pt (Pl.c (plS t n)))),(47, .d (dI m.cells.length)),(48, .d (dI k)),(87, .ptr 7402 k 0)] R R .d Adi Tryz.func64 R R lb (by simp only [List.forall_mem_cons];exact ⟨⟨Nat.le_of_ble_eq_true rfl,rfl⟩,⟨⟨Nat.le_of_ble_eq_true rfl,rfl⟩,⟨⟨Nat.le_of_ble_eq_true rfl,rfl⟩,⟨⟨Nat.le_of_ble_eq_true rfl,rfl⟩,⟨⟨Nat.le_of_ble_eq_true rfl,rfl⟩,⟨⟨Nat.le_of_ble_eq_true rfl,rfl⟩,⟨⟨Nat.le_of_ble_eq_true rfl,rfl⟩,fun p hp=>(by cases hp)⟩⟩⟩⟩⟩⟩⟩) fun u3=>?_
 refine zr<|za R R<|znr<|zp (Au R (by conv=>lhs;whnf))<|?_
 refine zm R R<|XL.inl 900004 [(0, .own 7501),(1, .d (.fn 65 [] [.pt (Pl.c (plS t n))])),(4, .d (.v (.slice none 0 0)))] R R .d Ac2 Tryz.func99 R R lb (by simp only [List.forall_mem_cons];exact ⟨⟨Nat.le_of_ble_eq_true rfl,rfl⟩,⟨⟨Nat.le_of_ble_eq_true rfl,rfl⟩,⟨⟨Nat.le_of_ble_eq_true rfl,rfl⟩,fun p hp=>(by cases hp)⟩⟩⟩) fun u4=>zr<|za R R<|zn<|zs<|zr<|?_
 refine zp (Au R (by conv=>lhs;whnf))<|?_
 refine zp (Bz R R R Tryz.underlying75)<|zm R R<|zn<|Ah<|?_
 refine Az (α:=Nat) (fun q=>q≤(x0.clefs).length∧((x0.clefs).take q).filter (cfK (plS t n).len)=(x0.clefs).take q) (fun q=>mkF [(0, .own 7501),(1, .d (.fn 65 [] [.pt (Pl.c (plS t n))])),(7, .d (dI x0.clefs.length)),(8, .d (dI q))]) (fun q=>mkH [(6, .box [.d (dI 0), .d (dI 0), .d (dI 0), .d (dI 0), .d (dI 0), .d (dI 0), .d (dI 0), .d (dI 0), .d (dI 0), .d (dI 0), .d (dI 0), .d (dI 0), .d (dB false), .d (dI 0), .d (dI 0), .d (dI 0), .d (dI 0), .d (dI 0), .d (dI 0), .d (.v (.string ⟨#[]⟩)), .d (.v (.slice none 0 0)), .d (.v (.slice none 0 0))]),(10, .box [.d (dI (m.h.sh t n).site), .d (dI (m.h.sh t n).num), .d (dI (m.h.sh t n).m.count), .d (dI (m.h.sh t n).m.unit), .d (dI (m.h.sh t n).m.g0), .d (dI (m.h.sh t n).m.g1), .d (dI (m.h.sh t n).m.g2), .d (dI (m.h.sh t n).m.g3), .d (dI (m.h.sh t n).m.g4), .d (dI (m.h.sh t n).m.g5), .d (dI (m.h.sh t n).len), .d (dI (m.h.sh t n).fifths), .d (dB (m.h.sh t n).start), .d (dI (m.h.sh t n).fin), .d (dI (m.h.sh t n).ends), .d (dI (m.h.sh t n).jump), .d (dI (m.h.sh t n).labels), .d (dI (m.h.sh t n).swing), .d (dI (m.h.sh t n).brk), .d (.v (.string ⟨(m.h.sh t n).reh.toArray⟩)), .own 7401, .own 7402]),(7401, .row 119 3 ((m.tempi).map Tm.c)),(7402, .tree 78 2 [] ((mix Ce.u Ce.t ((m.cells.take k).map (Co (plS m.h.m m.h.len) (plS t n))) (m.cells.drop k)).set k [.any, .d (.sl 2 (((Co (plS m.h.m m.h.len) (plS t n)) x0).voices.map Vo.c))])),(7501, .row 84 2 ((x0.clefs).map Cf.c)),(900003, .ghost u3 [(6, .ptr 6 0 0),(8, .d (.pt (Pl.c (plS m.h.m m.h.len)))),(10, .ptr 10 0 0),(11, .d (.pt (Pl.c (plS t n)))),(47, .d (dI m.cells.length)),(48, .d (dI k)),(87, .ptr 7402 k 0)]),(900004, .ghost u4 [(0, .own 7501),(1, .d (.fn 65 [] [.pt (Pl.c (plS t n))])),(4, .d (.v (.slice none 0 0)))])]) (fun q=>(x0.clefs).length - q) (0) (⟨Nat.zero_le _,R⟩) ?_ ?_ ?_
 exact fz ⟨sr,sr,sr,sr,trivial⟩
 exact gz ⟨R,R,R,R,R,R,R,trivial⟩
 intro q hk0x
 obtain ⟨hk,hfk⟩:=hk0x
 refine zr<|zp (Ap R R R)<|zn<|zs<|?_
 refine zd R (fun c9x=> ?_) (fun c9x=> ?_)
 obtain ⟨y,hy⟩:∃y,(x0.clefs)[q]? =some y:=Ax (by omega)
 refine zi<|zs<|Ah<|zr<|zm R R<|za R R<|znr<|zm R R<|zp (Au R (by conv=>lhs;whnf))<|?_
 refine zm R R<|zp (Cn R R R (R) R Iw (by omega))<|zp (Ae (s':= .d (.agg (Cf.c y))) (Ej R R Q0 R (C7 (hy)) lb) (by kernel_rfl))<|XL.callv1 (ds:= [_]) R R R (Ae0 _ _) R<|zn<|?_
 refine zd R (fun c16x=> ?_) (fun c16x=> ?_)
 refine zr<|zm R R<|za R R<|zn<|zt<|?_
 refine (Dw (l:= [(0, .own 7501),(1, .d (.fn 65 [] [.pt (Pl.c (plS t n))])),(4, .d (.v (.slice none 0 0)))]) (by kernel_rfl) (rs1 R (RV.tmp R R)) ?_).2
 refine za R R<|zn<|zs<|zr<|zm R R<|zp (Ba R R R)<|zn<|?_
 refine zd R (fun c12d=> ?_) (fun c12d=> ?_)
 exfalso;omega
 refine zi<|zs<|zr<|zm R R<|zp (Am R R R (by omega) (by omega))<|za R R<|zn<|Ah<|?_
 refine Az (α:=Nat × Nat × List Cf) (fun p=>DelG (cfK (plS t n).len) (x0.clefs) p.1 p.2.1 p.2.2) (fun p=>mkF [(0, .own 7501),(1, .d (.fn 65 [] [.pt (Pl.c (plS t n))])),(4, .d (.v (.slice none 0 0))),(5, .d (dI p.2.1)),(6, .d (dI p.1))]) (fun p=>mkH [(6, .box [.d (dI 0), .d (dI 0), .d (dI 0), .d (dI 0), .d (dI 0), .d (dI 0), .d (dI 0), .d (dI 0), .d (dI 0), .d (dI 0), .d (dI 0), .d (dI 0), .d (dB false), .d (dI 0), .d (dI 0), .d (dI 0), .d (dI 0), .d (dI 0), .d (dI 0), .d (.v (.string ⟨#[]⟩)), .d (.v (.slice none 0 0)), .d (.v (.slice none 0 0))]),(10, .box [.d (dI (m.h.sh t n).site), .d (dI (m.h.sh t n).num), .d (dI (m.h.sh t n).m.count), .d (dI (m.h.sh t n).m.unit), .d (dI (m.h.sh t n).m.g0), .d (dI (m.h.sh t n).m.g1), .d (dI (m.h.sh t n).m.g2), .d (dI (m.h.sh t n).m.g3), .d (dI (m.h.sh t n).m.g4), .d (dI (m.h.sh t n).m.g5), .d (dI (m.h.sh t n).len), .d (dI (m.h.sh t n).fifths), .d (dB (m.h.sh t n).start), .d (dI (m.h.sh t n).fin), .d (dI (m.h.sh t n).ends), .d (dI (m.h.sh t n).jump), .d (dI (m.h.sh t n).labels), .d (dI (m.h.sh t n).swing), .d (dI (m.h.sh t n).brk), .d (.v (.string ⟨(m.h.sh t n).reh.toArray⟩)), .own 7401, .own 7402]),(7401, .row 119 3 ((m.tempi).map Tm.c)),(7402, .tree 78 2 [] ((mix Ce.u Ce.t ((m.cells.take k).map (Co (plS m.h.m m.h.len) (plS t n))) (m.cells.drop k)).set k [.any, .d (.sl 2 (((Co (plS m.h.m m.h.len) (plS t n)) x0).voices.map Vo.c))])),(7501, .row 84 2 (p.2.2.map Cf.c)),(900003, .ghost u3 [(6, .ptr 6 0 0),(8, .d (.pt (Pl.c (plS m.h.m m.h.len)))),(10, .ptr 10 0 0),(11, .d (.pt (Pl.c (plS t n)))),(47, .d (dI m.cells.length)),(48, .d (dI k)),(87, .ptr 7402 k 0)])]) (fun p=>(x0.clefs).length - p.1) ((q+1,q,x0.clefs)) (DelG.start hy (Aka c16x) hfk) ?_ ?_ ?_
 exact fz ⟨sr,sr,sr,sr,sr,trivial⟩
 exact gz ⟨R,R,R,R,R,R,trivial⟩
 intro p hk0d
 have hD:=hk0d
 have hlt:=hD.lt
 have hle:=hD.le
 have hlen:=hD.len
 refine zs<|zr<|zm R R<|zp (Au R (by conv=>lhs;whnf))<|?_
 refine zp (Bz R R R Tryz.underlying75)<|zp (Ap R R R)<|zn<|?_
 refine zd R (fun c19d=> ?_) (fun c19d=> ?_)
 obtain ⟨z,hz⟩:∃z,(x0.clefs)[p.1]? =some z:=Ax (by omega)
 obtain ⟨w,hw⟩:∃w,p.2.2[p.2.1]? =some w:=Ax (by omega)
 refine zi<|zs<|Ah<|zr<|zp (Au R (by conv=>lhs;whnf))<|?_
 refine zm R R<|zp (Cn R R R (R) R Iw (by have:=hD.len;omega))<|zp (Ae (s':= .d (.agg (Cf.c z))) (Ej R R Q0 R (C7 (hD.get hz)) lb) (by kernel_rfl))<|XL.step R (Al 3007 (l:= [.d (dI 0), .d (dI 0)]) R Q1 (by kernel_rfl))<|XL.step R (Af (l':= [.d (dI z.tk), .d (dI z.clef)]) R R R R Xg R lb (by kernel_rfl))<|znr<|zm R R<|?_
 refine zp (Ae (s':= .d (.agg (Cf.c z))) (Ac (Ad R R Q0 R lb)) (by kernel_rfl))<|XL.callv1 (ds:= [_]) R R R (Ae0 _ _) R<|zp (E6 R R)<|zn<|?_
 refine zd R (fun c29d=> ?_) (fun c29d=> ?_)
 refine zr<|zp (Au R (by conv=>lhs;whnf))<|?_
 refine zm R R<|zp (Ae (s':= .d (.agg (Cf.c z))) (Ac (Ad R R Q0 R lb)) (by kernel_rfl))<|zp (Cn R R R (R) R Iw (by have:=hD.lt;have:=hD.len;omega))<|XL.step R (Fc R R R (C7 hw) R R Xg R lb)<|zng<|zm R R<|zp (Am R R R (by omega) (by omega))<|za R R<|zn<|Ag (by kernel_rfl)<|zm R R<|zp (Am R R R (by omega) (by omega))<|za R R<|zn<|?_
 exact An ((p.1+1,p.2.1+1,p.2.2.set p.2.1 z)) (hD.put hz (Afd c29d)) (by show (x0.clefs).length - (p.1+1)<(x0.clefs).length - p.1;omega) (fz ⟨sr,sr,sr,sr,sr,trivial⟩) (gz ⟨R,R,R,R,P0 R R,R,trivial⟩)
 refine zi<|Ag (by kernel_rfl)<|zm R R<|zp (Am R R R (by omega) (by omega))<|za R R<|zn<|?_
 exact An ((p.1+1,p.2.1,p.2.2)) (hD.keep hz (Aka (Decidable.not_not.1 c29d))) (by show (x0.clefs).length - (p.1+1)<(x0.clefs).length - p.1;omega) (fz ⟨sr,sr,sr,sr,sr,trivial⟩) (gz ⟨R,R,R,R,R,R,trivial⟩)
 have hfin:=hD.fin (by omega)
 refine Av<|zr<|zp (Au R (by conv=>lhs;whnf))<|?_
 refine zm R R<|zp (K8 R R R Iw (Bd.at R) Bd.no (by rw [List.length_map];have:=hD.lt;have:=hD.le;have:=hD.len;omega) (Nat.le_refl _))<|XL.step R (St (l2:=(p.2.2.take p.2.1++List.replicate (p.2.2.length - p.2.1) (⟨0,0⟩:Cf)).map Cf.c) (zs:= [dI 0,dI 0]) R (.sub R) Tryz.underlying75 Q1 (by kernel_rfl) (by kernel_rfl) (by decide) (by omega) (hD.clr R))<|znr<|?_
 refine zp (Au R (by conv=>lhs;whnf))<|?_
 refine zm R R<|XL.step R (Ob R R R Iw (.at R) (by rw [List.length_map,List.length_append,List.length_take,List.length_replicate];have:=hD.lt;have:=hD.le;have:=hD.len;omega))<|zp (At R (by conv=>lhs;whnf))<|?_
 refine zn<|zt<|?_
 refine (Dw (l:= [(6, .ptr 6 0 0),(8, .d (.pt (Pl.c (plS m.h.m m.h.len)))),(10, .ptr 10 0 0),(11, .d (.pt (Pl.c (plS t n)))),(47, .d (dI m.cells.length)),(48, .d (dI k)),(87, .ptr 7402 k 0)]) (by kernel_rfl) (Ci R (RVS.tmp R R)) ?_).2
 refine zp (H6 R R)<|zp (Aa R R Ee)<|XL.step R (Lg [7501] (l':=(mix Ce.u Ce.t ((m.cells.take k).map (Co (plS m.h.m m.h.len) (plS t n))) (m.cells.drop k)).set k [.own 7501, .d (.sl 2 (((Co (plS m.h.m m.h.len) (plS t n)) x0).voices.map Vo.c))]) R R R (Db (F0 hx0)) R Aft R lb R R (List.set_set ..))<|zn<|Ag (by kernel_rfl)<|?_
 refine XL.rowq (i:=7501) (l':=(((Co (plS m.h.m m.h.len) (plS t n)) x0).clefs).map Cf.c) R (by first|exact hD.cut.trans (congrArg (List.map Cf.c) hfin)|exact congrArg (List.map Cf.c) hfx.symm)<|XL.freeze (i:=7501) R<|?_
 refine XL.rowqT (i:=7402) (l':=(mix Ce.u Ce.t ((m.cells.take k).map (Co (plS m.h.m m.h.len) (plS t n))) (m.cells.drop k)).set k [.d (.sl 2 ((((Co (plS m.h.m m.h.len) (plS t n)) x0).clefs).map Cf.c)), .d (.sl 2 (((Co (plS m.h.m m.h.len) (plS t n)) x0).voices.map Vo.c))]) [] R (Uh (Iq [] _ _) R) (D9 (Iq [] _ _) (Gk (R) (R)) _)<|?_
 refine XL.rowqT (i:=7402) (l':=mix Ce.u Ce.t ((m.cells.take (k+1)).map (Co (plS m.h.m m.h.len) (plS t n))) (m.cells.drop (k+1))) [] R (S4 hx0) (Iq [] _ _)<|zp (Am R R R (by omega) (by omega))<|zm R R<|zn<|?_
 exact An (k+1) (⟨by omega,by rw [←Zo hx0 (by rw [←hgv,hk2b,List.drop_length];rfl)];exact hgo⟩) (by omega) (fz ⟨sr,sr,sr,sr,sr,sr,trivial⟩) (gz ⟨rfl,rfl,rfl,rfl,trivial⟩)
 refine zi<|Ag (by kernel_rfl)<|zp (Am R R R (by omega) (by omega))<|zm R R<|zn<|?_
 exact An (q+1) (⟨by omega,by rw [Tn hy (Afd c16x),hfk, ←Br hy]⟩) (by omega) (fz ⟨sr,sr,sr,sr,trivial⟩) (gz ⟨rfl,rfl,rfl,rfl,rfl,rfl,rfl,trivial⟩)
 have hfx:(x0.clefs).filter (cfK (plS t n).len)=x0.clefs:=by rw [show q=(x0.clefs).length by omega,List.take_length] at hfk;exact hfk
 refine Av<|zr<|za R R<|zn<|zt<|?_
 refine (Dw (l:= [(0, .own 7501),(1, .d (.fn 65 [] [.pt (Pl.c (plS t n))])),(4, .d (.v (.slice none 0 0)))]) (by kernel_rfl) (rs1 R (RV.tmp R R)) ?_).2
 refine za R R<|zn<|zs<|zr<|zm R R<|zp (Dz (Ba R R R) (by decide))<|zn<|Aw (by kernel_rfl) R<|zr<|zp (Au R (by conv=>lhs;whnf))<|?_
 refine zp (At R (by conv=>lhs;whnf))<|?_
 refine zn<|zt<|?_
 refine (Dw (l:= [(6, .ptr 6 0 0),(8, .d (.pt (Pl.c (plS m.h.m m.h.len)))),(10, .ptr 10 0 0),(11, .d (.pt (Pl.c (plS t n)))),(47, .d (dI m.cells.length)),(48, .d (dI k)),(87, .ptr 7402 k 0)]) (by kernel_rfl) (Ci R (RVS.tmp R R)) ?_).2
 refine zp (H6 R R)<|zp (Aa R R Ee)<|XL.step R (Lg [7501] (l':=(mix Ce.u Ce.t ((m.cells.take k).map (Co (plS m.h.m m.h.len) (plS t n))) (m.cells.drop k)).set k [.own 7501, .d (.sl 2 (((Co (plS m.h.m m.h.len) (plS t n)) x0).voices.map Vo.c))]) R R R (Db (F0 hx0)) R Aft R lb R R (List.set_set ..))<|zn<|Ag (by kernel_rfl)<|?_
 refine XL.rowq (i:=7501) (l':=(((Co (plS m.h.m m.h.len) (plS t n)) x0).clefs).map Cf.c) R (by first|exact hD.cut.trans (congrArg (List.map Cf.c) hfin)|exact congrArg (List.map Cf.c) hfx.symm)<|XL.freeze (i:=7501) R<|?_
 refine XL.rowqT (i:=7402) (l':=(mix Ce.u Ce.t ((m.cells.take k).map (Co (plS m.h.m m.h.len) (plS t n))) (m.cells.drop k)).set k [.d (.sl 2 ((((Co (plS m.h.m m.h.len) (plS t n)) x0).clefs).map Cf.c)), .d (.sl 2 (((Co (plS m.h.m m.h.len) (plS t n)) x0).voices.map Vo.c))]) [] R (Uh (Iq [] _ _) R) (D9 (Iq [] _ _) (Gk (R) (R)) _)<|?_
 refine XL.rowqT (i:=7402) (l':=mix Ce.u Ce.t ((m.cells.take (k+1)).map (Co (plS m.h.m m.h.len) (plS t n))) (m.cells.drop (k+1))) [] R (S4 hx0) (Iq [] _ _)<|zp (Am R R R (by omega) (by omega))<|zm R R<|zn<|?_
 exact An (k+1) (⟨by omega,by rw [←Zo hx0 (by rw [←hgv,hk2b,List.drop_length];rfl)];exact hgo⟩) (by omega) (fz ⟨sr,sr,sr,sr,sr,sr,trivial⟩) (gz ⟨rfl,rfl,rfl,rfl,trivial⟩)
 have hk0b:k=m.cells.length:=by omega
 refine Av<|zr<|zp (Aa R R Ff)<|zp (Ab R R Q6 R R)<|zp (Oy (pd:= []) (cd:= [_]) R R R)<|XL.inl 900005 [(6, .ptr 6 0 0),(10, .ptr 10 0 0)] R R .d Adg Tryz.func66 R R lb (by simp only [List.forall_mem_cons];exact ⟨⟨Nat.le_of_ble_eq_true rfl,rfl⟩,⟨⟨Nat.le_of_ble_eq_true rfl,rfl⟩,fun p hp=>(by cases hp)⟩⟩) fun u5=>zr<|za R R<|znr<|?_
 refine zp (Au R (by conv=>lhs;whnf))<|?_
 refine zm R R<|XL.inl 900006 [(0, .own 7401),(1, .d (.fn 67 [] [.pt (Pl.c (plS t n))])),(4, .d (.v (.slice none 0 0)))] R R .d Ab9 Tryz.func100 R R lb (by simp only [List.forall_mem_cons];exact ⟨⟨Nat.le_of_ble_eq_true rfl,rfl⟩,⟨⟨Nat.le_of_ble_eq_true rfl,rfl⟩,⟨⟨Nat.le_of_ble_eq_true rfl,rfl⟩,fun p hp=>(by cases hp)⟩⟩⟩) fun u6=>zr<|za R R<|zn<|zs<|zr<|?_
 refine zp (Au R (by conv=>lhs;whnf))<|?_
 refine zp (Bz R R R Tryz.underlying27)<|zm R R<|zn<|Ah<|?_
 refine Az (α:=Nat) (fun q=>q≤(m.tempi).length∧((m.tempi).take q).filter (tmK (plS t n).len)=(m.tempi).take q) (fun q=>mkF [(0, .own 7401),(1, .d (.fn 67 [] [.pt (Pl.c (plS t n))])),(7, .d (dI m.tempi.length)),(8, .d (dI q))]) (fun q=>mkH [(6, .box [.d (dI 0), .d (dI 0), .d (dI 0), .d (dI 0), .d (dI 0), .d (dI 0), .d (dI 0), .d (dI 0), .d (dI 0), .d (dI 0), .d (dI 0), .d (dI 0), .d (dB false), .d (dI 0), .d (dI 0), .d (dI 0), .d (dI 0), .d (dI 0), .d (dI 0), .d (.v (.string ⟨#[]⟩)), .d (.v (.slice none 0 0)), .d (.v (.slice none 0 0))]),(10, .box [.d (dI (m.h.sh t n).site), .d (dI (m.h.sh t n).num), .d (dI (m.h.sh t n).m.count), .d (dI (m.h.sh t n).m.unit), .d (dI (m.h.sh t n).m.g0), .d (dI (m.h.sh t n).m.g1), .d (dI (m.h.sh t n).m.g2), .d (dI (m.h.sh t n).m.g3), .d (dI (m.h.sh t n).m.g4), .d (dI (m.h.sh t n).m.g5), .d (dI (m.h.sh t n).len), .d (dI (m.h.sh t n).fifths), .d (dB (m.h.sh t n).start), .d (dI (m.h.sh t n).fin), .d (dI (m.h.sh t n).ends), .d (dI (m.h.sh t n).jump), .d (dI (m.h.sh t n).labels), .d (dI (m.h.sh t n).swing), .d (dI (m.h.sh t n).brk), .d (.v (.string ⟨(m.h.sh t n).reh.toArray⟩)), .own 7401, .own 7402]),(7401, .row 119 3 ((m.tempi).map Tm.c)),(7402, .tree 78 2 [] (mix Ce.u Ce.t ((m.cells.take k).map (Co (plS m.h.m m.h.len) (plS t n))) (m.cells.drop k))),(900005, .ghost u5 [(6, .ptr 6 0 0),(10, .ptr 10 0 0)]),(900006, .ghost u6 [(0, .own 7401),(1, .d (.fn 67 [] [.pt (Pl.c (plS t n))])),(4, .d (.v (.slice none 0 0)))])]) (fun q=>(m.tempi).length - q) (0) (⟨Nat.zero_le _,R⟩) ?_ ?_ ?_
 exact fz ⟨sr,sr,sr,sr,trivial⟩
 exact gz ⟨R,R,R,R,R,R,trivial⟩
 intro q hk0x
 obtain ⟨hk,hfk⟩:=hk0x
 refine zr<|zp (Ap R R R)<|zn<|zs<|?_
 refine zd R (fun c9x=> ?_) (fun c9x=> ?_)
 obtain ⟨y,hy⟩:∃y,(m.tempi)[q]? =some y:=Ax (by omega)
 refine zi<|zs<|Ah<|zr<|zm R R<|za R R<|znr<|zm R R<|zp (Au R (by conv=>lhs;whnf))<|?_
 refine zm R R<|zp (Cn R R R (R) R Pb (by omega))<|zp (Ae (s':= .d (.agg (Tm.c y))) (Ej R R Ro R (C7 (hy)) lb) (by kernel_rfl))<|XL.callv1 (ds:= [_]) R R R (Aez _ _) R<|zn<|?_
 refine zd R (fun c16x=> ?_) (fun c16x=> ?_)
 refine zr<|zm R R<|za R R<|zn<|zt<|?_
 refine (Dw (l:= [(0, .own 7401),(1, .d (.fn 67 [] [.pt (Pl.c (plS t n))])),(4, .d (.v (.slice none 0 0)))]) (by kernel_rfl) (rs1 R (RV.tmp R R)) ?_).2
 refine za R R<|zn<|zs<|zr<|zm R R<|zp (Ba R R R)<|zn<|?_
 refine zd R (fun c12d=> ?_) (fun c12d=> ?_)
 exfalso;omega
 refine zi<|zs<|zr<|zm R R<|zp (Am R R R (by omega) (by omega))<|za R R<|zn<|Ah<|?_
 refine Az (α:=Nat × Nat × List Tm) (fun p=>DelG (tmK (plS t n).len) (m.tempi) p.1 p.2.1 p.2.2) (fun p=>mkF [(0, .own 7401),(1, .d (.fn 67 [] [.pt (Pl.c (plS t n))])),(4, .d (.v (.slice none 0 0))),(5, .d (dI p.2.1)),(6, .d (dI p.1))]) (fun p=>mkH [(6, .box [.d (dI 0), .d (dI 0), .d (dI 0), .d (dI 0), .d (dI 0), .d (dI 0), .d (dI 0), .d (dI 0), .d (dI 0), .d (dI 0), .d (dI 0), .d (dI 0), .d (dB false), .d (dI 0), .d (dI 0), .d (dI 0), .d (dI 0), .d (dI 0), .d (dI 0), .d (.v (.string ⟨#[]⟩)), .d (.v (.slice none 0 0)), .d (.v (.slice none 0 0))]),(10, .box [.d (dI (m.h.sh t n).site), .d (dI (m.h.sh t n).num), .d (dI (m.h.sh t n).m.count), .d (dI (m.h.sh t n).m.unit), .d (dI (m.h.sh t n).m.g0), .d (dI (m.h.sh t n).m.g1), .d (dI (m.h.sh t n).m.g2), .d (dI (m.h.sh t n).m.g3), .d (dI (m.h.sh t n).m.g4), .d (dI (m.h.sh t n).m.g5), .d (dI (m.h.sh t n).len), .d (dI (m.h.sh t n).fifths), .d (dB (m.h.sh t n).start), .d (dI (m.h.sh t n).fin), .d (dI (m.h.sh t n).ends), .d (dI (m.h.sh t n).jump), .d (dI (m.h.sh t n).labels), .d (dI (m.h.sh t n).swing), .d (dI (m.h.sh t n).brk), .d (.v (.string ⟨(m.h.sh t n).reh.toArray⟩)), .own 7401, .own 7402]),(7401, .row 119 3 (p.2.2.map Tm.c)),(7402, .tree 78 2 [] (mix Ce.u Ce.t ((m.cells.take k).map (Co (plS m.h.m m.h.len) (plS t n))) (m.cells.drop k))),(900005, .ghost u5 [(6, .ptr 6 0 0),(10, .ptr 10 0 0)])]) (fun p=>(m.tempi).length - p.1) ((q+1,q,m.tempi)) (DelG.start hy (Ahq c16x) hfk) ?_ ?_ ?_
 exact fz ⟨sr,sr,sr,sr,sr,trivial⟩
 exact gz ⟨R,R,R,R,R,trivial⟩
 intro p hk0d
 have hD:=hk0d
 have hlt:=hD.lt
 have hle:=hD.le
 have hlen:=hD.len
 refine zs<|zr<|zm R R<|zp (Au R (by conv=>lhs;whnf))<|?_
 refine zp (Bz R R R Tryz.underlying27)<|zp (Ap R R R)<|zn<|?_
 refine zd R (fun c19d=> ?_) (fun c19d=> ?_)
 obtain ⟨z,hz⟩:∃z,(m.tempi)[p.1]? =some z:=Ax (by omega)
 obtain ⟨w,hw⟩:∃w,p.2.2[p.2.1]? =some w:=Ax (by omega)
 refine zi<|zs<|Ah<|zr<|zp (Au R (by conv=>lhs;whnf))<|?_
 refine zm R R<|zp (Cn R R R (R) R Pb (by have:=hD.len;omega))<|zp (Ae (s':= .d (.agg (Tm.c z))) (Ej R R Ro R (C7 (hD.get hz)) lb) (by kernel_rfl))<|XL.step R (Al 5007 (l:= [.d (dI 0), .d (dI 0), .d (dB false)]) R Md (by kernel_rfl))<|XL.step R (Af (l':= [.d (dI z.tk), .d (dI z.micros), .d (dB z.ramp)]) R R R R Pq R lb (by kernel_rfl))<|?_
 refine znr<|zm R R<|zp (Ae (s':= .d (.agg (Tm.c z))) (Ac (Ad R R Ro R lb)) (by kernel_rfl))<|XL.callv1 (ds:= [_]) R R R (Aez _ _) R<|zp (E6 R R)<|zn<|?_
 refine zd R (fun c29d=> ?_) (fun c29d=> ?_)
 refine zr<|zp (Au R (by conv=>lhs;whnf))<|?_
 refine zm R R<|zp (Ae (s':= .d (.agg (Tm.c z))) (Ac (Ad R R Ro R lb)) (by kernel_rfl))<|zp (Cn R R R (R) R Pb (by have:=hD.lt;have:=hD.len;omega))<|XL.step R (Fc R R R (C7 hw) R R Pq R lb)<|zng<|zm R R<|zp (Am R R R (by omega) (by omega))<|za R R<|zn<|Ag (by kernel_rfl)<|zm R R<|zp (Am R R R (by omega) (by omega))<|za R R<|zn<|?_
 exact An ((p.1+1,p.2.1+1,p.2.2.set p.2.1 z)) (hD.put hz (Aec c29d)) (by show (m.tempi).length - (p.1+1)<(m.tempi).length - p.1;omega) (fz ⟨sr,sr,sr,sr,sr,trivial⟩) (gz ⟨R,R,P0 R R,R,R,trivial⟩)
 refine zi<|Ag (by kernel_rfl)<|zm R R<|zp (Am R R R (by omega) (by omega))<|za R R<|zn<|?_
 exact An ((p.1+1,p.2.1,p.2.2)) (hD.keep hz (Ahq (Decidable.not_not.1 c29d))) (by show (m.tempi).length - (p.1+1)<(m.tempi).length - p.1;omega) (fz ⟨sr,sr,sr,sr,sr,trivial⟩) (gz ⟨R,R,R,R,R,trivial⟩)
 have hfin:=hD.fin (by omega)
 refine Av<|zr<|zp (Au R (by conv=>lhs;whnf))<|?_
 refine zm R R<|zp (K8 R R R Pb (Bd.at R) Bd.no (by rw [List.length_map];have:=hD.lt;have:=hD.le;have:=hD.len;omega) (Nat.le_refl _))<|XL.step R (St (l2:=(p.2.2.take p.2.1++List.replicate (p.2.2.length - p.2.1) (⟨0,0,false⟩:Tm)).map Tm.c) (zs:= [dI 0,dI 0,dB false]) R (.sub R) Tryz.underlying27 Md (by kernel_rfl) (by kernel_rfl) (by decide) (by omega) (hD.clr R))<|?_
 refine znr<|zp (Au R (by conv=>lhs;whnf))<|?_
 refine zm R R<|XL.step R (Ob R R R Pb (.at R) (by rw [List.length_map,List.length_append,List.length_take,List.length_replicate];have:=hD.lt;have:=hD.le;have:=hD.len;omega))<|zp (At R (by conv=>lhs;whnf))<|?_
 refine zn<|zt<|?_
 refine (Dw (l:= [(6, .ptr 6 0 0),(10, .ptr 10 0 0)]) (by kernel_rfl) (Ci R (RVS.tmp R R)) ?_).2
 refine zp (Aa R R Ff)<|?_
 refine XL.step R (Af (l':= [.d (dI (m.h.sh t n).site), .d (dI (m.h.sh t n).num), .d (dI (m.h.sh t n).m.count), .d (dI (m.h.sh t n).m.unit), .d (dI (m.h.sh t n).m.g0), .d (dI (m.h.sh t n).m.g1), .d (dI (m.h.sh t n).m.g2), .d (dI (m.h.sh t n).m.g3), .d (dI (m.h.sh t n).m.g4), .d (dI (m.h.sh t n).m.g5), .d (dI (m.h.sh t n).len), .d (dI (m.h.sh t n).fifths), .d (dB (m.h.sh t n).start), .d (dI (m.h.sh t n).fin), .d (dI (m.h.sh t n).ends), .d (dI (m.h.sh t n).jump), .d (dI (m.h.sh t n).labels), .d (dI (m.h.sh t n).swing), .d (dI (m.h.sh t n).brk), .d (.v (.string ⟨(m.h.sh t n).reh.toArray⟩)), .own 7401, .own 7402]) R R R R T4 R lb (by kernel_rfl))<|?_
 refine znr<|XL.rowq (i:=7401) (l':=(m.tempi.filter (tmK (plS t n).len)).map Tm.c) R (by first|exact hD.cut.trans (congrArg (List.map Tm.c) hfin)|exact congrArg (List.map Tm.c) hfx.symm)<|XL.freeze (i:=7401) R<|XL.freezeT (i:=7402) R (Aet _ _) (by rw [Aiu,hk0b,List.take_length,List.drop_length,List.append_nil])<|?_
 refine zp (Ae (s':= .d (.agg [dI (m.h.sh t n).site,dI (m.h.sh t n).num,dI (m.h.sh t n).m.count,dI (m.h.sh t n).m.unit,dI (m.h.sh t n).m.g0,dI (m.h.sh t n).m.g1,dI (m.h.sh t n).m.g2,dI (m.h.sh t n).m.g3,dI (m.h.sh t n).m.g4,dI (m.h.sh t n).m.g5,dI (m.h.sh t n).len,dI (m.h.sh t n).fifths,dB (m.h.sh t n).start,dI (m.h.sh t n).fin,dI (m.h.sh t n).ends,dI (m.h.sh t n).jump,dI (m.h.sh t n).labels,dI (m.h.sh t n).swing,dI (m.h.sh t n).brk, .v (.string ⟨(m.h.sh t n).reh.toArray⟩), .sl 3 ((m.tempi.filter (tmK (plS t n).len)).map Tm.c), .sl 2 ((m.cells.map (Co (plS m.h.m m.h.len) (plS t n))).map Ce.c)])) (Ac (Ad R R Cb R lb)) (by kernel_rfl))<|?_
 refine XL.step R (Af (l':= [.d (dI (m.h.sh t n).site), .d (dI (m.h.sh t n).num), .d (dI (m.h.sh t n).m.count), .d (dI (m.h.sh t n).m.unit), .d (dI (m.h.sh t n).m.g0), .d (dI (m.h.sh t n).m.g1), .d (dI (m.h.sh t n).m.g2), .d (dI (m.h.sh t n).m.g3), .d (dI (m.h.sh t n).m.g4), .d (dI (m.h.sh t n).m.g5), .d (dI (m.h.sh t n).len), .d (dI (m.h.sh t n).fifths), .d (dB (m.h.sh t n).start), .d (dI (m.h.sh t n).fin), .d (dI (m.h.sh t n).ends), .d (dI (m.h.sh t n).jump), .d (dI (m.h.sh t n).labels), .d (dI (m.h.sh t n).swing), .d (dI (m.h.sh t n).brk), .d (.v (.string ⟨(m.h.sh t n).reh.toArray⟩)), .d (.sl 3 ((m.tempi.filter (tmK (plS t n).len)).map Tm.c)), .d (.sl 2 ((m.cells.map (Co (plS m.h.m m.h.len) (plS t n))).map Ce.c))]) R R R R Gt R lb (by kernel_rfl))<|?_
 refine za R R<|zn<|zt<|?_
 exact Ay R (RV.cells R R R Cb lb R) (RV.tmp R R) (Vh (Ar7 c21 c33 (by rw [←hgo,hk0b,List.drop_length];rfl)))
 refine zi<|Ag (by kernel_rfl)<|zp (Am R R R (by omega) (by omega))<|zm R R<|zn<|?_
 exact An (q+1) (⟨by omega,by rw [Tn hy (Aec c16x),hfk, ←Br hy]⟩) (by omega) (fz ⟨sr,sr,sr,sr,trivial⟩) (gz ⟨rfl,rfl,rfl,rfl,rfl,rfl,trivial⟩)
 have hfx:(m.tempi).filter (tmK (plS t n).len)=m.tempi:=by rw [show q=(m.tempi).length by omega,List.take_length] at hfk;exact hfk
 refine Av<|zr<|za R R<|zn<|zt<|?_
 refine (Dw (l:= [(0, .own 7401),(1, .d (.fn 67 [] [.pt (Pl.c (plS t n))])),(4, .d (.v (.slice none 0 0)))]) (by kernel_rfl) (rs1 R (RV.tmp R R)) ?_).2
 refine za R R<|zn<|zs<|zr<|zm R R<|zp (Dz (Ba R R R) (by decide))<|zn<|Aw (by kernel_rfl) R<|zr<|zp (Au R (by conv=>lhs;whnf))<|?_
 refine zp (At R (by conv=>lhs;whnf))<|?_
 refine zn<|zt<|?_
 refine (Dw (l:= [(6, .ptr 6 0 0),(10, .ptr 10 0 0)]) (by kernel_rfl) (Ci R (RVS.tmp R R)) ?_).2
 refine zp (Aa R R Ff)<|?_
 refine XL.step R (Af (l':= [.d (dI (m.h.sh t n).site), .d (dI (m.h.sh t n).num), .d (dI (m.h.sh t n).m.count), .d (dI (m.h.sh t n).m.unit), .d (dI (m.h.sh t n).m.g0), .d (dI (m.h.sh t n).m.g1), .d (dI (m.h.sh t n).m.g2), .d (dI (m.h.sh t n).m.g3), .d (dI (m.h.sh t n).m.g4), .d (dI (m.h.sh t n).m.g5), .d (dI (m.h.sh t n).len), .d (dI (m.h.sh t n).fifths), .d (dB (m.h.sh t n).start), .d (dI (m.h.sh t n).fin), .d (dI (m.h.sh t n).ends), .d (dI (m.h.sh t n).jump), .d (dI (m.h.sh t n).labels), .d (dI (m.h.sh t n).swing), .d (dI (m.h.sh t n).brk), .d (.v (.string ⟨(m.h.sh t n).reh.toArray⟩)), .own 7401, .own 7402]) R R R R T4 R lb (by kernel_rfl))<|?_
 refine znr<|XL.rowq (i:=7401) (l':=(m.tempi.filter (tmK (plS t n).len)).map Tm.c) R (by first|exact hD.cut.trans (congrArg (List.map Tm.c) hfin)|exact congrArg (List.map Tm.c) hfx.symm)<|XL.freeze (i:=7401) R<|XL.freezeT (i:=7402) R (Aet _ _) (by rw [Aiu,hk0b,List.take_length,List.drop_length,List.append_nil])<|?_
 refine zp (Ae (s':= .d (.agg [dI (m.h.sh t n).site,dI (m.h.sh t n).num,dI (m.h.sh t n).m.count,dI (m.h.sh t n).m.unit,dI (m.h.sh t n).m.g0,dI (m.h.sh t n).m.g1,dI (m.h.sh t n).m.g2,dI (m.h.sh t n).m.g3,dI (m.h.sh t n).m.g4,dI (m.h.sh t n).m.g5,dI (m.h.sh t n).len,dI (m.h.sh t n).fifths,dB (m.h.sh t n).start,dI (m.h.sh t n).fin,dI (m.h.sh t n).ends,dI (m.h.sh t n).jump,dI (m.h.sh t n).labels,dI (m.h.sh t n).swing,dI (m.h.sh t n).brk, .v (.string ⟨(m.h.sh t n).reh.toArray⟩), .sl 3 ((m.tempi.filter (tmK (plS t n).len)).map Tm.c), .sl 2 ((m.cells.map (Co (plS m.h.m m.h.len) (plS t n))).map Ce.c)])) (Ac (Ad R R Cb R lb)) (by kernel_rfl))<|?_
 refine XL.step R (Af (l':= [.d (dI (m.h.sh t n).site), .d (dI (m.h.sh t n).num), .d (dI (m.h.sh t n).m.count), .d (dI (m.h.sh t n).m.unit), .d (dI (m.h.sh t n).m.g0), .d (dI (m.h.sh t n).m.g1), .d (dI (m.h.sh t n).m.g2), .d (dI (m.h.sh t n).m.g3), .d (dI (m.h.sh t n).m.g4), .d (dI (m.h.sh t n).m.g5), .d (dI (m.h.sh t n).len), .d (dI (m.h.sh t n).fifths), .d (dB (m.h.sh t n).start), .d (dI (m.h.sh t n).fin), .d (dI (m.h.sh t n).ends), .d (dI (m.h.sh t n).jump), .d (dI (m.h.sh t n).labels), .d (dI (m.h.sh t n).swing), .d (dI (m.h.sh t n).brk), .d (.v (.string ⟨(m.h.sh t n).reh.toArray⟩)), .d (.sl 3 ((m.tempi.filter (tmK (plS t n).len)).map Tm.c)), .d (.sl 2 ((m.cells.map (Co (plS m.h.m m.h.len) (plS t n))).map Ce.c))]) R R R R Gt R lb (by kernel_rfl))<|?_
 refine za R R<|zn<|zt<|?_
 exact Ay R (RV.cells R R R Cb lb R) (RV.tmp R R) (Vh (Ar7 c21 c33 (by rw [←hgo,hk0b,List.drop_length];rfl)))
end Go.Proofs.YtaafemnkamfgnaaGreat
namespace Go.Proofs.YtaafemnkamfgnaaGreat
open Go.RowKit
def kR (n:Int) (v:Val):Ev:=⟨1,n,2,v, [], [],0,0,0, [],0,0⟩
def Vf:Vo:=⟨[kR 1 ⟨1,0⟩,kR 2 ⟨2,0⟩], []⟩
def Ve:Vo:=⟨[kR 3 ⟨1,1⟩], []⟩
def kCe:Ce:=⟨[], [Vf,Ve]⟩
def kMe:Me:=⟨3,4,0,0,0,0,0,0⟩
def J6:Me:=⟨4,4,0,0,0,0,0,0⟩
def kM:Ms:=⟨⟨0,0,kMe,0,0,false,0,0,0,0,0,0, []⟩, [], [kCe]⟩
def kSl:List Slt:= [⟨0,0,0,0,967680⟩,⟨0,0,1,967680,1451520⟩,⟨0,1,0,0,1451520⟩]
theorem Ajb (n:Int) (v:Val):(kR n v).fit:=⟨Nat.zero_le _,Nat.zero_le _,Nat.zero_le _⟩
theorem Za : kM.fit := ⟨by decide, by decide, fun c hc => by
 have:=List.mem_singleton.1 hc;subst this
 refine ⟨by decide,by decide,fun v hv=> ?_⟩
 simp only [kCe,List.mem_cons,List.not_mem_nil,or_false] at hv
 rcases hv with rfl|rfl
 ·exact ⟨by decide,by decide,fun e he=>by simp only [Vf,List.mem_cons,List.not_mem_nil,or_false] at he;rcases he with rfl|rfl<;>exact Ajb _ _⟩
 ·exact ⟨by decide, by decide, fun e he => by simp only [Ve, List.mem_cons, List.not_mem_nil, or_false] at he; rcases he with rfl; exact Ajb _ _⟩⟩
theorem Zb:kM.evs:=fun c hc v hv e he=>by
 have:=List.mem_singleton.1 hc;subst this
 simp only [kCe,List.mem_cons,List.not_mem_nil,or_false] at hv
 rcases hv with rfl|rfl
 ·simp only [Vf,List.mem_cons,List.not_mem_nil,or_false] at he;rcases he with rfl|rfl<;>decide
 ·simp only [Ve,List.mem_cons,List.not_mem_nil,or_false] at he;rcases he with rfl;decide
theorem Ai9:slE kM=0:=by decide+kernel
theorem Ai8:slL kM=kSl:=by decide+kernel
theorem Ary:mlE kMe 0=0:=by decide+kernel
theorem Arx:mlV kMe 0=1451520:=by decide+kernel
theorem Arz:Z1 kM= [0,967680]:=by
 unfold Z1
 rw [Ai8,show kSl.map (·.on)= [0,967680,0] from rfl]
 have h1:srt [0,967680,0]= [0,0,967680]:=by
  have hp:([0,967680,0]:List Int).Perm [0,0,967680]:=by decide
  have e1:srt [0,967680,0]=srt [0,0,967680]:=by
   refine List.Perm.eq_of_pairwise (le:=fun a b=>decide (a≤b)=true) (fun a b _ _ h1 h2=>by simp at h1 h2;omega) (List.pairwise_mergeSort (fun a b c h1 h2=>by simp at h1 h2 ⊢;omega) (fun a b=>by simp;omega) _) (List.pairwise_mergeSort (fun a b c h1 h2=>by simp at h1 h2 ⊢;omega) (fun a b=>by simp;omega) _) ?_
   exact ((List.mergeSort_perm _ _).trans hp).trans (List.mergeSort_perm _ _).symm
  rw [e1]
  exact List.mergeSort_of_pairwise (by decide)
 rw [h1]
 decide+kernel
theorem Anp:Jh kM J6 0=0:=by decide+kernel
theorem As3:M4 kM J6 0=Ags kM J6 0 (plS kMe 0) (plS J6 0):=by rw [M4,Anp];rfl
theorem Aja:(Co (plS kMe 0) (plS J6 0) kCe).voices.length=2:=by decide+kernel
theorem As4 : ∃ y, (Co (plS kMe 0) (plS J6 0) kCe).voices[1]? = some y ∧ y.evs.length = 2 := ⟨(Co (plS kMe 0) (plS J6 0) kCe).voices[1]'(by rw [Aja]; decide), List.getElem?_eq_getElem _, by decide +kernel⟩
theorem U8 (n:Int) (v:Val):XC Tryz.prog 94 [.agg [dI 1,dI n], .agg (Val.c v)] (fun r=>r= .agg (Ev.c (kR n v))):=by
 refine Ak Ac5 Tryz.func94 R R lb<|zr<|XL.step R (Ar 2 (l:= [.d (dI 1), .d (dI n)]) R R (by kernel_rfl))<|XL.step R (Ar 3 (l:= [.d (dI v.log), .d (dI v.dots)]) R R (by kernel_rfl))<|?_
 refine XL.step R (Al 4 (l:= [.d (dI 0), .d (dI 0), .d (dI 0), .d (dI 0), .d (dI 0), .d (.v (.slice none 0 0)), .d (.v (.slice none 0 0)), .d (dI 0), .d (dI 0), .d (dI 0), .d (.v (.slice none 0 0)), .d (dI 0), .d (dI 0)]) R B9 (by kernel_rfl))<|znr<|zp (Ae (s':= .d (.agg [dI 1,dI n])) (Ac (Ad R R Akj R lb)) (by kernel_rfl))<|?_
 refine zp (Ae (s':= .d (.agg (Val.c v))) (Ac (Ad R R Ec R lb)) (by kernel_rfl))<|zp (Ae (s':= .d (.agg [dI 1,dI n,dI 2,dI v.log,dI v.dots, .v (.slice none 0 0), .v (.slice none 0 0),dI 0,dI 0,dI 0, .v (.slice none 0 0),dI 0,dI 0])) (Ac (A0 R Pr B9 R)) (by kernel_rfl))<|?_
 refine XL.step R (Af (l':= [.d (dI 1), .d (dI n), .d (dI 2), .d (dI v.log), .d (dI v.dots), .d (.v (.slice none 0 0)), .d (.v (.slice none 0 0)), .d (dI 0), .d (dI 0), .d (dI 0), .d (.v (.slice none 0 0)), .d (dI 0), .d (dI 0)]) R R R R C0 R lb (by kernel_rfl))<|zn<|zt<|?_
 exact Jw R (RV.sub (RV.cells R R R Bw lb R) (.agg (.cons (.same R) (.cons (.same R) (.cons (.same R) (.cons (.same R) (.cons (.same R) (.cons (.nil 5) (.cons (.nil 5) (.cons (.same R) (.cons (.same R) (.cons (.same R) (.cons (.nil 2) (.cons (.same R) (.cons (.same R) (.nil)))))))))))))))) (R)
theorem Lz  :XC Tryz.prog 55 [] (fun r=>r= .agg (Ms.c kM)):=by
 refine Ak Adp Tryz.func55 R R lb<|zr<|XL.step R (Al 0 (l:= [.d (dI 0), .d (dI 0), .d (dI 0), .d (dI 0), .d (dI 0), .d (dI 0), .d (dI 0), .d (dI 0), .d (dI 0), .d (dI 0), .d (dI 0), .d (dI 0), .d (dB false), .d (dI 0), .d (dI 0), .d (dI 0), .d (dI 0), .d (dI 0), .d (dI 0), .d (.v (.string ⟨#[]⟩)), .d (.v (.slice none 0 0)), .d (.v (.slice none 0 0))]) R F7 (by kernel_rfl))<|znr<|?_
 refine zp (Ae (s':= .d (.agg [dI 1,dI 1])) (Ac (A0 R X9 Uz R)) (by kernel_rfl))<|zp (Ae (s':= .d (.agg [dI 1,dI 0])) (Ac (A0 R X7 Fi R)) (by kernel_rfl))<|XL.call1 R R (U8 1 ⟨1,0⟩) R<|zp (Ae (s':= .d (.agg [dI 1,dI 2])) (Ac (A0 R X9 Uz R)) (by kernel_rfl))<|?_
 refine zp (Ae (s':= .d (.agg [dI 2,dI 0])) (Ac (A0 R X7 Fi R)) (by kernel_rfl))<|XL.call1 R R (U8 2 ⟨2,0⟩) R<|XL.step R (Al 1 (l:= [.d (dI 0), .d (dI 0), .d (dI 0), .d (dI 0), .d (dI 0), .d (.v (.slice none 0 0)), .d (.v (.slice none 0 0)), .d (dI 0), .d (dI 0), .d (dI 0), .d (.v (.slice none 0 0)), .d (dI 0), .d (dI 0)]) R B9 (by kernel_rfl))<|?_
 refine XL.step R (Al 2 (l:= [.d (dI 0), .d (dI 0), .d (dI 0), .d (dI 0), .d (dI 0), .d (.v (.slice none 0 0)), .d (.v (.slice none 0 0)), .d (dI 0), .d (dI 0), .d (dI 0), .d (.v (.slice none 0 0)), .d (dI 0), .d (dI 0)]) R B9 (by kernel_rfl))<|?_
 refine XL.step R (Af (l':= [.d (dI (kR 1 ⟨1,0⟩).site), .d (dI (kR 1 ⟨1,0⟩).num), .d (dI (kR 1 ⟨1,0⟩).kind), .d (dI (kR 1 ⟨1,0⟩).v.log), .d (dI (kR 1 ⟨1,0⟩).v.dots), .d (.sl 5 ((kR 1 ⟨1,0⟩).heads.map Hd.c)), .d (.sl 5 ((kR 1 ⟨1,0⟩).graces.map Gr.c)), .d (dI (kR 1 ⟨1,0⟩).art), .d (dI (kR 1 ⟨1,0⟩).orn), .d (dI (kR 1 ⟨1,0⟩).dyn), .d (.sl 2 ((kR 1 ⟨1,0⟩).lyr.map Sy.c)), .d (dI (kR 1 ⟨1,0⟩).stem), .d (dI (kR 1 ⟨1,0⟩).beam)]) R R R R C0 R lb (by kernel_rfl))<|?_
 refine XL.step R (Af (l':= [.d (dI (kR 2 ⟨2,0⟩).site), .d (dI (kR 2 ⟨2,0⟩).num), .d (dI (kR 2 ⟨2,0⟩).kind), .d (dI (kR 2 ⟨2,0⟩).v.log), .d (dI (kR 2 ⟨2,0⟩).v.dots), .d (.sl 5 ((kR 2 ⟨2,0⟩).heads.map Hd.c)), .d (.sl 5 ((kR 2 ⟨2,0⟩).graces.map Gr.c)), .d (dI (kR 2 ⟨2,0⟩).art), .d (dI (kR 2 ⟨2,0⟩).orn), .d (dI (kR 2 ⟨2,0⟩).dyn), .d (.sl 2 ((kR 2 ⟨2,0⟩).lyr.map Sy.c)), .d (dI (kR 2 ⟨2,0⟩).stem), .d (dI (kR 2 ⟨2,0⟩).beam)]) R R R R C0 R lb (by kernel_rfl))<|?_
 refine znr<|zp (Ae (s':= .d (.agg [dI 1,dI 3])) (Ac (A0 R X9 Uz R)) (by kernel_rfl))<|zp (Ae (s':= .d (.agg [dI 1,dI 1])) (Ac (A0 R X7 Fi R)) (by kernel_rfl))<|XL.call1 R R (U8 3 ⟨1,1⟩) R<|?_
 refine XL.step R (Al 3 (l:= [.d (dI 0), .d (dI 0), .d (dI 0), .d (dI 0), .d (dI 0), .d (.v (.slice none 0 0)), .d (.v (.slice none 0 0)), .d (dI 0), .d (dI 0), .d (dI 0), .d (.v (.slice none 0 0)), .d (dI 0), .d (dI 0)]) R B9 (by kernel_rfl))<|?_
 refine XL.step R (Af (l':= [.d (dI (kR 3 ⟨1,1⟩).site), .d (dI (kR 3 ⟨1,1⟩).num), .d (dI (kR 3 ⟨1,1⟩).kind), .d (dI (kR 3 ⟨1,1⟩).v.log), .d (dI (kR 3 ⟨1,1⟩).v.dots), .d (.sl 5 ((kR 3 ⟨1,1⟩).heads.map Hd.c)), .d (.sl 5 ((kR 3 ⟨1,1⟩).graces.map Gr.c)), .d (dI (kR 3 ⟨1,1⟩).art), .d (dI (kR 3 ⟨1,1⟩).orn), .d (dI (kR 3 ⟨1,1⟩).dyn), .d (.sl 2 ((kR 3 ⟨1,1⟩).lyr.map Sy.c)), .d (dI (kR 3 ⟨1,1⟩).stem), .d (dI (kR 3 ⟨1,1⟩).beam)]) R R R R C0 R lb (by kernel_rfl))<|?_
 refine znr<|zp (Ae (s':= .d (.agg [dI 3,dI 4,dI 0,dI 0,dI 0,dI 0,dI 0,dI 0])) (Ac (A0 R Ahv Ad6 R)) (by kernel_rfl))<|zp (Ae (s':= .d (.agg (Ev.c (kR 1 ⟨1,0⟩)))) (Ac (Ad R R Bw R lb)) (by kernel_rfl))<|zp (Ae (s':= .d (.agg (Ev.c (kR 2 ⟨2,0⟩)))) (Ac (Ad R R Bw R lb)) (by kernel_rfl))<|?_
 refine XL.step R (G0 (l:= [kR 1 ⟨1,0⟩,kR 2 ⟨2,0⟩].map Ev.c) R Tryz.underlying79 C0 B9 (by kernel_rfl) R (by omega) (by omega))<|zp (Ou (.agg (Vo.c Vf)) (Ae (s':= .d (.agg [.sl 13 ([kR 1 ⟨1,0⟩,kR 2 ⟨2,0⟩].map Ev.c), .v (.slice none 0 0)])) (Ac (A0 R Cx Bc R)) (by kernel_rfl)) (.agg (.cons (.same R) (.cons (.nil 4) (.nil)))))<|?_
 refine zp (Ae (s':= .d (.agg (Ev.c (kR 3 ⟨1,1⟩)))) (Ac (Ad R R Bw R lb)) (by kernel_rfl))<|XL.step R (G0 (l:= [kR 3 ⟨1,1⟩].map Ev.c) R Tryz.underlying79 C0 B9 (by kernel_rfl) R (by omega) (by omega))<|?_
 refine zp (Ou (.agg (Vo.c Ve)) (Ae (s':= .d (.agg [.sl 13 ([kR 3 ⟨1,1⟩].map Ev.c), .v (.slice none 0 0)])) (Ac (A0 R Cx Bc R)) (by kernel_rfl)) (.agg (.cons (.same R) (.cons (.nil 4) (.nil)))))<|XL.step R (G0 (l:= [Vf,Ve].map Vo.c) R Tryz.underlying76 Bm Bc (by kernel_rfl) R (by omega) (by omega))<|?_
 refine zp (Ou (.agg (Ce.c kCe)) (Ae (s':= .d (.agg [.v (.slice none 0 0), .sl 2 ([Vf,Ve].map Vo.c)])) (Ac (A0 R Ahu Fw R)) (by kernel_rfl)) (.agg (.cons (.nil 2) (.cons (.same R) (.nil)))))<|XL.step R (G0 (l:= [kCe].map Ce.c) R Tryz.underlying28 Kt Fw (by kernel_rfl) R (by omega) (by omega))<|?_
 refine zp (Ou (.agg (Ms.c kM)) (Ae (s':= .d (.agg [dI 0,dI 0,dI 3,dI 4,dI 0,dI 0,dI 0,dI 0,dI 0,dI 0,dI 0,dI 0,dB false,dI 0,dI 0,dI 0,dI 0,dI 0,dI 0, .v (.string ⟨#[]⟩), .v (.slice none 0 0), .sl 2 ([kCe].map Ce.c)])) (Ac (A0 (r:= [.d (dI 0), .d (dI 0), .d (dI 3), .d (dI 4), .d (dI 0), .d (dI 0), .d (dI 0), .d (dI 0), .d (dI 0), .d (dI 0), .d (dI 0), .d (dI 0), .d (dB false), .d (dI 0), .d (dI 0), .d (dI 0), .d (dI 0), .d (dI 0), .d (dI 0), .d (.v (.string ⟨#[]⟩)), .d (.v (.slice none 0 0)), .d (.sl 2 ([kCe].map Ce.c))]) R Ps F7 (by kernel_rfl))) (by kernel_rfl)) (.agg (.cons (.same R) (.cons (.same R) (.cons (.same R) (.cons (.same R) (.cons (.same R) (.cons (.same R) (.cons (.same R) (.cons (.same R) (.cons (.same R) (.cons (.same R) (.cons (.same R) (.cons (.same R) (.cons (.same R) (.cons (.same R) (.cons (.same R) (.cons (.same R) (.cons (.same R) (.cons (.same R) (.cons (.same R) (.cons (.same R) (.cons (.nil 3) (.cons (.same R) (.nil)))))))))))))))))))))))))<|?_
 refine XL.step R (Af (l':= [.d (dI kM.h.site), .d (dI kM.h.num), .d (dI kM.h.m.count), .d (dI kM.h.m.unit), .d (dI kM.h.m.g0), .d (dI kM.h.m.g1), .d (dI kM.h.m.g2), .d (dI kM.h.m.g3), .d (dI kM.h.m.g4), .d (dI kM.h.m.g5), .d (dI kM.h.len), .d (dI kM.h.fifths), .d (dB kM.h.start), .d (dI kM.h.fin), .d (dI kM.h.ends), .d (dI kM.h.jump), .d (dI kM.h.labels), .d (dI kM.h.swing), .d (dI kM.h.brk), .d (.v (.string ⟨kM.h.reh.toArray⟩)), .d (.sl 3 (kM.tempi.map Tm.c)), .d (.sl 2 (kM.cells.map Ce.c))]) R R R R Gt R lb (by kernel_rfl))<|?_
 refine zn<|zt<|?_
 exact Jw R (RV.cells R R R Cb lb R) (R)
theorem Ai7:XC Tryz.prog 20 [.agg (Ms.c kM)] (fun r=>r= .tup [.sl 5 (kSl.map Slt.c),dI 0]):=by
 have:=Yd kM Za Zb
 rw [Ai8,Ai9] at this;exact this
theorem Apq:XC Tryz.prog 21 [.agg (Ms.c kM)] (fun r=>r= .tup [.sl 1 (([0,967680]:List Int).map iv),dI 0]):=by
 have:=Ag1 kM Za Zb
 rw [Arz,Ai9] at this;exact this
def kF:Ms:=Ags kM J6 0 (plS kMe 0) (plS J6 0)
theorem App:XC Tryz.prog 28 [.agg (Ms.c kM), .agg (Me.c J6),dI 0] (fun r=>r= .tup [.agg (Ms.c kF),dI 0]):=by
 have:=Api kM J6 0 Za Zb
 rw [As3,Anp] at this;exact this
theorem Apo:XC Tryz.prog 15 [.agg (Ms.c kM)] (fun r=>r= .tup [dI 1451520,dI 0]):=by
 have:=Nm kM.h kM.tempi kM.cells
 rw [show mlV kM.h.m kM.h.len=1451520 from Arx,show mlE kM.h.m kM.h.len=0 from Ary] at this;exact this
theorem Al7  :XC Tryz.prog 19 [] (fun r=>r=dB true):=by
 obtain ⟨y,hy,hyl⟩:=As4
 refine Ak Ad1 Tryz.func19 R R lb<|zr<|za R R<|znr<|XL.call1 R R (Lz) R<|XL.call1 R R (Ai7) R<|zm R R<|zp (Ao R R R)<|zp (Ao R R R)<|za R R<|za R R<|znr<|XL.call1 R R (Lz) R<|XL.call1 R R (Apq) R<|?_
 refine zm R R<|zp (Ao R R R)<|zp (Ao R R R)<|za R R<|za R R<|znr<|XL.call1 R R (Lz) R<|zp (Ae (s':= .d (.agg (Me.c J6))) (Ac (A0 R Ahv Ad6 R)) (by kernel_rfl))<|XL.call1 R R (App) R<|zm R R<|zp (Ao R R R)<|zp (Ao R R R)<|?_
 refine XL.step R (Al 5 (l:= [.d (dI 0), .d (dI 0), .d (dI 0), .d (dI 0), .d (dI 0), .d (dI 0), .d (dI 0), .d (dI 0), .d (dI 0), .d (dI 0), .d (dI 0), .d (dI 0), .d (dB false), .d (dI 0), .d (dI 0), .d (dI 0), .d (dI 0), .d (dI 0), .d (dI 0), .d (.v (.string ⟨#[]⟩)), .d (.v (.slice none 0 0)), .d (.v (.slice none 0 0))]) R F7 (by kernel_rfl))<|?_
 refine XL.step R (Af (l':= [.d (dI kF.h.site), .d (dI kF.h.num), .d (dI kF.h.m.count), .d (dI kF.h.m.unit), .d (dI kF.h.m.g0), .d (dI kF.h.m.g1), .d (dI kF.h.m.g2), .d (dI kF.h.m.g3), .d (dI kF.h.m.g4), .d (dI kF.h.m.g5), .d (dI kF.h.len), .d (dI kF.h.fifths), .d (dB kF.h.start), .d (dI kF.h.fin), .d (dI kF.h.ends), .d (dI kF.h.jump), .d (dI kF.h.labels), .d (dI kF.h.swing), .d (dI kF.h.brk), .d (.v (.string ⟨kF.h.reh.toArray⟩)), .d (.sl 3 (kF.tempi.map Tm.c)), .d (.sl 2 (kF.cells.map Ce.c))]) R R R R Gt R lb (by kernel_rfl))<|?_
 refine za R R<|znr<|XL.call1 R R (Lz) R<|XL.call1 R R (Apo) R<|zm R R<|zp (Ao R R R)<|zp (Ao R R R)<|za R R<|za R R<|znr<|zm R R<|zp (Dz (Ba R R R) (R))<|zm R R<|zm R R<|?_
 refine XL.len R R R Tryz.underlying42 fun hl34=>zp (Dz (Ba R R R) (by decide))<|zq R R R<|zm R R<|zm R R<|zp (Aq (k:=1) R R R Anw ((R:kSl[1]? =some ⟨0,0,1,967680,1451520⟩)))<|zp (Ae (s':= .d (.agg (Slt.c (⟨0,0,1,967680,1451520⟩)))) (A8 R R Aki lb) (by kernel_rfl))<|?_
 refine zp (Ae (s':= .d (.agg [dI 0,dI 0,dI 1,dI 967680,dI 1451520])) (Ac (A0 R X8 L5 R)) (by kernel_rfl))<|zp (Ae (s':= .d (dB true)) (Alm R R R) (by kernel_rfl))<|zq R R R<|zm R R<|zm R R<|zp (Dz (Ba R R R) (R))<|zq R R R<|zm R R<|zm R R<|XL.len R R R Tryz.underlying45 fun hl50=>zp (Dz (Ba R R R) (by decide))<|zq R R R<|zm R R<|zm R R<|?_
 refine zp (Aq (k:=1) R R R Dl ((R:([0,967680]:List Int)[1]? =some 967680)))<|zp (A7 R R Ai)<|zp (Dz (Ba R R R) (R))<|zq R R R<|zm R R<|zm R R<|zp (Dz (Ba R R R) (R))<|zq R R R<|zm R R<|zp (Aa R R Cu)<|zp (Ab R R Gu R R)<|XL.len R R R Tryz.underlying28 fun hl66=>zp (Dz (Ba R R R) (by decide))<|zq R R R<|?_
 refine zm R R<|zp (Aa R R Cu)<|zp (Ab R R Gu R R)<|zp (Aq (k:=0) R R R Kc ((R:kF.cells[0]? =some (Co (plS kMe 0) (plS J6 0) kCe))))<|zp (Dt R R Cs)<|zp (A7 R R Ez)<|XL.len R R R Tryz.underlying76 fun hl75=>zp (Dz (Ba R R R) (by rw [Aja];rfl))<|zq R R R<|zm R R<|zp (Aa R R Cu)<|zp (Ab R R Gu R R)<|?_
 refine zp (Aq (k:=0) R R R Kc ((R:kF.cells[0]? =some (Co (plS kMe 0) (plS J6 0) kCe))))<|zp (Dt R R Cs)<|zp (A7 R R Ez)<|zp (Aq (k:=1) R R R Kb (hy))<|zp (Dt R R Bp)<|zp (A7 R R C6)<|XL.len R R R Tryz.underlying79 fun hl87=>zp (Dz (Ba R R R) (by rw [hyl];rfl))<|zq R R R<|zm R R<|zm R R<|zp (Dz (Ba R R R) (R))<|?_
 exact zq R R R<|zm R R<|zm R R<|zp (Dz (Ba R R R) (R))<|zq R R R<|za R R<|zn<|zt<|z1 R R (R)
end Go.Proofs.YtaafemnkamfgnaaGreat
namespace Go.Proofs.YtaafemnkamfgnaaGreat
open Go.RowKit
theorem Aqs:sizeB Tryz.prog 195 63=true:=by kernel_rfl
theorem Xt:zeroB Tryz.prog 195 (.agg #[.string ⟨#[]⟩, .int .u8 0, .int .i64 0, .int .i64 0, .int .i64 0, .int .i64 0, .int .i64 0, .string ⟨#[]⟩, .int .u8 0, .int .i64 0, .int .i64 0, .int .i64 0, .int .i64 0, .int .i64 0, .string ⟨#[]⟩, .int .u8 0, .int .i64 0, .int .i64 0, .int .i64 0, .int .i64 0, .int .i64 0, .string ⟨#[]⟩, .int .u8 0, .int .i64 0, .int .i64 0, .int .i64 0, .int .i64 0, .int .i64 0, .string ⟨#[]⟩, .int .u8 0, .int .i64 0, .int .i64 0, .int .i64 0, .int .i64 0, .int .i64 0, .string ⟨#[]⟩, .int .u8 0, .int .i64 0, .int .i64 0, .int .i64 0, .int .i64 0, .int .i64 0, .string ⟨#[]⟩, .int .u8 0, .int .i64 0, .int .i64 0, .int .i64 0, .int .i64 0, .int .i64 0, .string ⟨#[]⟩, .int .u8 0, .int .i64 0, .int .i64 0, .int .i64 0, .int .i64 0, .int .i64 0, .string ⟨#[]⟩, .int .u8 0, .int .i64 0, .int .i64 0, .int .i64 0, .int .i64 0, .int .i64 0]):=by unfold zeroB;kernel_rfl
theorem Aqg:aggB Tryz.prog 195 63=true:=by kernel_rfl
theorem Hc {P:Program} {o:Oper} {e:Operand→S} {h:Xh} {t m k sz:Nat} {x y:Operand} {l:List D} {el:TypeId} {ik:IntKind} {a:Int} (ho:o.op= .index t x y) (hx:e x= .d (.agg l)) (hy:e y= .d (.v (.int ik a))) (ha:a=(k:Int)) (hu:P.underlying t=some (.array m el)) (hs:aggB P el sz=true) (h1:sizeB P el sz=true) (hk:k<m) (hl:k*sz+sz≤l.length):Be P o e h (.d (.agg ((l.drop (k*sz)).take sz))):=fun E H β ρ w _ hop=>by
 subst ha
 have g:=hop x (by rw [ho];simp [Op.operands])
 have g2:=hop y (by rw [ho];simp [Op.operands])
 rw [hx] at g
 rw [hy] at g2
 obtain ⟨cs,e1,e2,e3⟩:=N6 (D2 g)
 have hlt:(0:Int)≤(k:Int)∧(k:Int)<(m:Int):=⟨by omega,by omega⟩
 refine ⟨.agg (cs.extract (k*sz) (k*sz+sz)), ?_, .d (.agg _ _ (by simp;omega) fun i v d hv hd=> ?_)⟩
 ·unfold execOp
  simp only [ho,e1,De g2,Instr.index,asIntOf,Sem.run_bind,run_underlying hu,Result.andThen_ok,Sem.run_pure,hlt,and_self,if_true,sizeB.run h1,Int.toNat_natCast,part,(aggB.isAgg hs w).1,show k*sz+sz≤cs.size by omega,decide_true]
 ·rw [List.getElem?_take] at hd
  split at hd
  ·rw [List.getElem?_drop] at hd
   rw [Array.getElem?_extract] at hv
   split at hv
   ·exact e3 _ v d hv hd
   ·cases hv
  ·cases hd
def cfE (c:Int):Int:=if c<1∨9<c then 11 else 0
theorem Aue {c:Int} (h:c<1∨9<c):11=cfE c:=by rw [cfE,if_pos h]
theorem Hh  :XC Tryz.prog 137 [] (fun r=>r= .agg [.v (.string ⟨#[116,114,101,98,108,101]⟩), .v (.int .u8 71),dI (-2),dI 0,dI 34,dI (-1),dI (-3), .v (.string ⟨#[98,97,115,115]⟩), .v (.int .u8 70),dI 2,dI 0,dI 22,dI (-3),dI (-5), .v (.string ⟨#[97,108,116,111]⟩), .v (.int .u8 67),dI 0,dI 0,dI 28,dI (-2),dI (-4), .v (.string ⟨#[116,101,110,111,114]⟩), .v (.int .u8 67),dI 2,dI 0,dI 26,dI (-2),dI (-2), .v (.string ⟨#[115,111,112,114,97,110,111]⟩), .v (.int .u8 67),dI (-4),dI 0,dI 32,dI (-2),dI (-3), .v (.string ⟨#[109,101,122,122,111,115,111,112,114,97,110,111]⟩), .v (.int .u8 67),dI (-2),dI 0,dI 30,dI (-2),dI (-3), .v (.string ⟨#[98,97,114,105,116,111,110,101]⟩), .v (.int .u8 70),dI 0,dI 0,dI 24,dI (-2),dI (-3), .v (.string ⟨#[116,114,101,98,108,101,56]⟩), .v (.int .u8 71),dI (-2),dI (-1),dI 27,dI (-1),dI (-3), .v (.string ⟨#[98,97,115,115,56]⟩), .v (.int .u8 70),dI 2,dI (-1),dI 15,dI (-3),dI (-5)]):=by
 refine Ak Abs Tryz.func137 R R lb<|zr<|?_
 refine XL.step R (Al 0 (l:= [.d (.v (.string ⟨#[]⟩)), .d (.v (.int .u8 0)), .d (dI 0), .d (dI 0), .d (dI 0), .d (dI 0), .d (dI 0), .d (.v (.string ⟨#[]⟩)), .d (.v (.int .u8 0)), .d (dI 0), .d (dI 0), .d (dI 0), .d (dI 0), .d (dI 0), .d (.v (.string ⟨#[]⟩)), .d (.v (.int .u8 0)), .d (dI 0), .d (dI 0), .d (dI 0), .d (dI 0), .d (dI 0), .d (.v (.string ⟨#[]⟩)), .d (.v (.int .u8 0)), .d (dI 0), .d (dI 0), .d (dI 0), .d (dI 0), .d (dI 0), .d (.v (.string ⟨#[]⟩)), .d (.v (.int .u8 0)), .d (dI 0), .d (dI 0), .d (dI 0), .d (dI 0), .d (dI 0), .d (.v (.string ⟨#[]⟩)), .d (.v (.int .u8 0)), .d (dI 0), .d (dI 0), .d (dI 0), .d (dI 0), .d (dI 0), .d (.v (.string ⟨#[]⟩)), .d (.v (.int .u8 0)), .d (dI 0), .d (dI 0), .d (dI 0), .d (dI 0), .d (dI 0), .d (.v (.string ⟨#[]⟩)), .d (.v (.int .u8 0)), .d (dI 0), .d (dI 0), .d (dI 0), .d (dI 0), .d (dI 0), .d (.v (.string ⟨#[]⟩)), .d (.v (.int .u8 0)), .d (dI 0), .d (dI 0), .d (dI 0), .d (dI 0), .d (dI 0)]) R Xt (by kernel_rfl))<|?_
 refine znr<|zp (Ae (s':= .d (.agg [.v (.string ⟨#[116,114,101,98,108,101]⟩), .v (.int .u8 71),dI (-2),dI 0,dI 34,dI (-1),dI (-3)])) (Ac (A0 R Gw B6 R)) (by kernel_rfl))<|zp (Ae (s':= .d (.agg [.v (.string ⟨#[98,97,115,115]⟩), .v (.int .u8 70),dI 2,dI 0,dI 22,dI (-3),dI (-5)])) (Ac (A0 R Gw B6 R)) (by kernel_rfl))<|?_
 refine zp (Ae (s':= .d (.agg [.v (.string ⟨#[97,108,116,111]⟩), .v (.int .u8 67),dI 0,dI 0,dI 28,dI (-2),dI (-4)])) (Ac (A0 R Gw B6 R)) (by kernel_rfl))<|zp (Ae (s':= .d (.agg [.v (.string ⟨#[116,101,110,111,114]⟩), .v (.int .u8 67),dI 2,dI 0,dI 26,dI (-2),dI (-2)])) (Ac (A0 R Gw B6 R)) (by kernel_rfl))<|?_
 refine zp (Ae (s':= .d (.agg [.v (.string ⟨#[115,111,112,114,97,110,111]⟩), .v (.int .u8 67),dI (-4),dI 0,dI 32,dI (-2),dI (-3)])) (Ac (A0 R Gw B6 R)) (by kernel_rfl))<|?_
 refine zp (Ae (s':= .d (.agg [.v (.string ⟨#[109,101,122,122,111,115,111,112,114,97,110,111]⟩), .v (.int .u8 67),dI (-2),dI 0,dI 30,dI (-2),dI (-3)])) (Ac (A0 R Gw B6 R)) (by kernel_rfl))<|?_
 refine zp (Ae (s':= .d (.agg [.v (.string ⟨#[98,97,114,105,116,111,110,101]⟩), .v (.int .u8 70),dI 0,dI 0,dI 24,dI (-2),dI (-3)])) (Ac (A0 R Gw B6 R)) (by kernel_rfl))<|?_
 refine zp (Ae (s':= .d (.agg [.v (.string ⟨#[116,114,101,98,108,101,56]⟩), .v (.int .u8 71),dI (-2),dI (-1),dI 27,dI (-1),dI (-3)])) (Ac (A0 R Gw B6 R)) (by kernel_rfl))<|zp (Ae (s':= .d (.agg [.v (.string ⟨#[98,97,115,115,56]⟩), .v (.int .u8 70),dI 2,dI (-1),dI 15,dI (-3),dI (-5)])) (Ac (A0 R Gw B6 R)) (by kernel_rfl))<|?_
 refine zp (Ae (s':= .d (.agg [.v (.string ⟨#[116,114,101,98,108,101]⟩), .v (.int .u8 71),dI (-2),dI 0,dI 34,dI (-1),dI (-3), .v (.string ⟨#[98,97,115,115]⟩), .v (.int .u8 70),dI 2,dI 0,dI 22,dI (-3),dI (-5), .v (.string ⟨#[97,108,116,111]⟩), .v (.int .u8 67),dI 0,dI 0,dI 28,dI (-2),dI (-4), .v (.string ⟨#[116,101,110,111,114]⟩), .v (.int .u8 67),dI 2,dI 0,dI 26,dI (-2),dI (-2), .v (.string ⟨#[115,111,112,114,97,110,111]⟩), .v (.int .u8 67),dI (-4),dI 0,dI 32,dI (-2),dI (-3), .v (.string ⟨#[109,101,122,122,111,115,111,112,114,97,110,111]⟩), .v (.int .u8 67),dI (-2),dI 0,dI 30,dI (-2),dI (-3), .v (.string ⟨#[98,97,114,105,116,111,110,101]⟩), .v (.int .u8 70),dI 0,dI 0,dI 24,dI (-2),dI (-3), .v (.string ⟨#[116,114,101,98,108,101,56]⟩), .v (.int .u8 71),dI (-2),dI (-1),dI 27,dI (-1),dI (-3), .v (.string ⟨#[98,97,115,115,56]⟩), .v (.int .u8 70),dI 2,dI (-1),dI 15,dI (-3),dI (-5)])) (Ac (Lt R Tryz.underlying195 Cw Xt R)) (by kernel_rfl))<|?_
 refine XL.step R (Af (l':= [.d (.v (.string ⟨#[116,114,101,98,108,101]⟩)), .d (.v (.int .u8 71)), .d (dI (-2)), .d (dI 0), .d (dI 34), .d (dI (-1)), .d (dI (-3)), .d (.v (.string ⟨#[98,97,115,115]⟩)), .d (.v (.int .u8 70)), .d (dI 2), .d (dI 0), .d (dI 22), .d (dI (-3)), .d (dI (-5)), .d (.v (.string ⟨#[97,108,116,111]⟩)), .d (.v (.int .u8 67)), .d (dI 0), .d (dI 0), .d (dI 28), .d (dI (-2)), .d (dI (-4)), .d (.v (.string ⟨#[116,101,110,111,114]⟩)), .d (.v (.int .u8 67)), .d (dI 2), .d (dI 0), .d (dI 26), .d (dI (-2)), .d (dI (-2)), .d (.v (.string ⟨#[115,111,112,114,97,110,111]⟩)), .d (.v (.int .u8 67)), .d (dI (-4)), .d (dI 0), .d (dI 32), .d (dI (-2)), .d (dI (-3)), .d (.v (.string ⟨#[109,101,122,122,111,115,111,112,114,97,110,111]⟩)), .d (.v (.int .u8 67)), .d (dI (-2)), .d (dI 0), .d (dI 30), .d (dI (-2)), .d (dI (-3)), .d (.v (.string ⟨#[98,97,114,105,116,111,110,101]⟩)), .d (.v (.int .u8 70)), .d (dI 0), .d (dI 0), .d (dI 24), .d (dI (-2)), .d (dI (-3)), .d (.v (.string ⟨#[116,114,101,98,108,101,56]⟩)), .d (.v (.int .u8 71)), .d (dI (-2)), .d (dI (-1)), .d (dI 27), .d (dI (-1)), .d (dI (-3)), .d (.v (.string ⟨#[98,97,115,115,56]⟩)), .d (.v (.int .u8 70)), .d (dI 2), .d (dI (-1)), .d (dI 15), .d (dI (-3)), .d (dI (-5))]) R R R R Aqs R lb (by kernel_rfl))<|?_
 refine zn<|zt<|?_
 exact Jw R (RV.cells R R R Aqg lb R) (R)
theorem Arm  :XC Tryz.prog 106 [.v (.int .i64 1)] (fun r=>r= .tup [.agg [.v (.string ⟨#[116,114,101,98,108,101]⟩), .v (.int .u8 71),dI (-2),dI 0,dI 34,dI (-1),dI (-3)],dI 0]):=by
 refine Ak Eb Tryz.func106 R R lb<|zr<|XL.step R (Al 2 (l:= [.d (.v (.string ⟨#[]⟩)), .d (.v (.int .u8 0)), .d (dI 0), .d (dI 0), .d (dI 0), .d (dI 0), .d (dI 0)]) R B6 (by kernel_rfl))<|za R R<|zn<|zs<|zr<|zm R R<|zp (Ds (Ap R R R) (by decide))<|zm R R<|zm R R<|zp (Ds (A4 R R R) (by decide))<|zq R R R<|zn<|?_
 refine A3 (by kernel_rfl) R<|zi<|zr<|XL.call1 R R (Hh) R<|zm R R<|zp (Dd R R R (by decide) (by decide))<|zp (Ae (s':= .d (.agg ([.v (.string ⟨#[116,114,101,98,108,101]⟩), .v (.int .u8 71),dI (-2),dI 0,dI 34,dI (-1),dI (-3)]))) (Hc (k:=0) R R R R Tryz.underlying195 Dy Cw (by decide) (by decide)) (by kernel_rfl))<|?_
 refine XL.step R (Af (l':= [.d (.v (.string ⟨#[116,114,101,98,108,101]⟩)), .d (.v (.int .u8 71)), .d (dI (-2)), .d (dI 0), .d (dI 34), .d (dI (-1)), .d (dI (-3))]) R R R R Cw R lb (by kernel_rfl))<|za R R<|zn<|zt<|?_
 exact Ay R (RV.cells R R R Dy lb R) (RV.tmp R R) (R)
theorem Am6  :XC Tryz.prog 75 [.v (.int .i64 1)] (fun r=>r=dI 0):=by
 refine Ak Ek Tryz.func75 R R lb<|zr<|za R R<|znr<|zm R R<|XL.call1 R R (Arm) R<|zm R R<|zp (Ao R R R)<|zp (Ao R R R)<|XL.step R (Al 3 (l:= [.d (.v (.string ⟨#[]⟩)), .d (.v (.int .u8 0)), .d (dI 0), .d (dI 0), .d (dI 0), .d (dI 0), .d (dI 0)]) R B6 (by kernel_rfl))<|?_
 exact XL.step R (Af (l':= [.d (.v (.string ⟨#[116,114,101,98,108,101]⟩)), .d (.v (.int .u8 71)), .d (dI (-2)), .d (dI 0), .d (dI 34), .d (dI (-1)), .d (dI (-3))]) R R R R Cw R lb (by kernel_rfl))<|za R R<|znr<|zm R R<|za R R<|zn<|zt<|z1 R R (R)
theorem Arl  :XC Tryz.prog 106 [.v (.int .i64 2)] (fun r=>r= .tup [.agg [.v (.string ⟨#[98,97,115,115]⟩), .v (.int .u8 70),dI 2,dI 0,dI 22,dI (-3),dI (-5)],dI 0]):=by
 refine Ak Eb Tryz.func106 R R lb<|zr<|XL.step R (Al 2 (l:= [.d (.v (.string ⟨#[]⟩)), .d (.v (.int .u8 0)), .d (dI 0), .d (dI 0), .d (dI 0), .d (dI 0), .d (dI 0)]) R B6 (by kernel_rfl))<|za R R<|zn<|zs<|zr<|zm R R<|zp (Ds (Ap R R R) (by decide))<|zm R R<|zm R R<|zp (Ds (A4 R R R) (by decide))<|zq R R R<|zn<|?_
 refine A3 (by kernel_rfl) R<|zi<|zr<|XL.call1 R R (Hh) R<|zm R R<|zp (Dd R R R (by decide) (by decide))<|zp (Ae (s':= .d (.agg ([.v (.string ⟨#[98,97,115,115]⟩), .v (.int .u8 70),dI 2,dI 0,dI 22,dI (-3),dI (-5)]))) (Hc (k:=1) R R R R Tryz.underlying195 Dy Cw (by decide) (by decide)) (by kernel_rfl))<|?_
 refine XL.step R (Af (l':= [.d (.v (.string ⟨#[98,97,115,115]⟩)), .d (.v (.int .u8 70)), .d (dI 2), .d (dI 0), .d (dI 22), .d (dI (-3)), .d (dI (-5))]) R R R R Cw R lb (by kernel_rfl))<|za R R<|zn<|zt<|?_
 exact Ay R (RV.cells R R R Dy lb R) (RV.tmp R R) (R)
theorem Am5  :XC Tryz.prog 75 [.v (.int .i64 2)] (fun r=>r=dI 0):=by
 refine Ak Ek Tryz.func75 R R lb<|zr<|za R R<|znr<|zm R R<|XL.call1 R R (Arl) R<|zm R R<|zp (Ao R R R)<|zp (Ao R R R)<|XL.step R (Al 3 (l:= [.d (.v (.string ⟨#[]⟩)), .d (.v (.int .u8 0)), .d (dI 0), .d (dI 0), .d (dI 0), .d (dI 0), .d (dI 0)]) R B6 (by kernel_rfl))<|?_
 exact XL.step R (Af (l':= [.d (.v (.string ⟨#[98,97,115,115]⟩)), .d (.v (.int .u8 70)), .d (dI 2), .d (dI 0), .d (dI 22), .d (dI (-3)), .d (dI (-5))]) R R R R Cw R lb (by kernel_rfl))<|za R R<|znr<|zm R R<|za R R<|zn<|zt<|z1 R R (R)
theorem Ark  :XC Tryz.prog 106 [.v (.int .i64 3)] (fun r=>r= .tup [.agg [.v (.string ⟨#[97,108,116,111]⟩), .v (.int .u8 67),dI 0,dI 0,dI 28,dI (-2),dI (-4)],dI 0]):=by
 refine Ak Eb Tryz.func106 R R lb<|zr<|XL.step R (Al 2 (l:= [.d (.v (.string ⟨#[]⟩)), .d (.v (.int .u8 0)), .d (dI 0), .d (dI 0), .d (dI 0), .d (dI 0), .d (dI 0)]) R B6 (by kernel_rfl))<|za R R<|zn<|zs<|zr<|zm R R<|zp (Ds (Ap R R R) (by decide))<|zm R R<|zm R R<|zp (Ds (A4 R R R) (by decide))<|zq R R R<|zn<|?_
 refine A3 (by kernel_rfl) R<|zi<|zr<|XL.call1 R R (Hh) R<|zm R R<|zp (Dd R R R (by decide) (by decide))<|zp (Ae (s':= .d (.agg ([.v (.string ⟨#[97,108,116,111]⟩), .v (.int .u8 67),dI 0,dI 0,dI 28,dI (-2),dI (-4)]))) (Hc (k:=2) R R R R Tryz.underlying195 Dy Cw (by decide) (by decide)) (by kernel_rfl))<|?_
 refine XL.step R (Af (l':= [.d (.v (.string ⟨#[97,108,116,111]⟩)), .d (.v (.int .u8 67)), .d (dI 0), .d (dI 0), .d (dI 28), .d (dI (-2)), .d (dI (-4))]) R R R R Cw R lb (by kernel_rfl))<|za R R<|zn<|zt<|?_
 exact Ay R (RV.cells R R R Dy lb R) (RV.tmp R R) (R)
theorem Am4  :XC Tryz.prog 75 [.v (.int .i64 3)] (fun r=>r=dI 0):=by
 refine Ak Ek Tryz.func75 R R lb<|zr<|za R R<|znr<|zm R R<|XL.call1 R R (Ark) R<|zm R R<|zp (Ao R R R)<|zp (Ao R R R)<|XL.step R (Al 3 (l:= [.d (.v (.string ⟨#[]⟩)), .d (.v (.int .u8 0)), .d (dI 0), .d (dI 0), .d (dI 0), .d (dI 0), .d (dI 0)]) R B6 (by kernel_rfl))<|?_
 exact XL.step R (Af (l':= [.d (.v (.string ⟨#[97,108,116,111]⟩)), .d (.v (.int .u8 67)), .d (dI 0), .d (dI 0), .d (dI 28), .d (dI (-2)), .d (dI (-4))]) R R R R Cw R lb (by kernel_rfl))<|za R R<|znr<|zm R R<|za R R<|zn<|zt<|z1 R R (R)
theorem Arj  :XC Tryz.prog 106 [.v (.int .i64 4)] (fun r=>r= .tup [.agg [.v (.string ⟨#[116,101,110,111,114]⟩), .v (.int .u8 67),dI 2,dI 0,dI 26,dI (-2),dI (-2)],dI 0]):=by
 refine Ak Eb Tryz.func106 R R lb<|zr<|XL.step R (Al 2 (l:= [.d (.v (.string ⟨#[]⟩)), .d (.v (.int .u8 0)), .d (dI 0), .d (dI 0), .d (dI 0), .d (dI 0), .d (dI 0)]) R B6 (by kernel_rfl))<|za R R<|zn<|zs<|zr<|zm R R<|zp (Ds (Ap R R R) (by decide))<|zm R R<|zm R R<|zp (Ds (A4 R R R) (by decide))<|zq R R R<|zn<|?_
 refine A3 (by kernel_rfl) R<|zi<|zr<|XL.call1 R R (Hh) R<|zm R R<|zp (Dd R R R (by decide) (by decide))<|zp (Ae (s':= .d (.agg ([.v (.string ⟨#[116,101,110,111,114]⟩), .v (.int .u8 67),dI 2,dI 0,dI 26,dI (-2),dI (-2)]))) (Hc (k:=3) R R R R Tryz.underlying195 Dy Cw (by decide) (by decide)) (by kernel_rfl))<|?_
 refine XL.step R (Af (l':= [.d (.v (.string ⟨#[116,101,110,111,114]⟩)), .d (.v (.int .u8 67)), .d (dI 2), .d (dI 0), .d (dI 26), .d (dI (-2)), .d (dI (-2))]) R R R R Cw R lb (by kernel_rfl))<|za R R<|zn<|zt<|?_
 exact Ay R (RV.cells R R R Dy lb R) (RV.tmp R R) (R)
theorem Am3  :XC Tryz.prog 75 [.v (.int .i64 4)] (fun r=>r=dI 0):=by
 refine Ak Ek Tryz.func75 R R lb<|zr<|za R R<|znr<|zm R R<|XL.call1 R R (Arj) R<|zm R R<|zp (Ao R R R)<|zp (Ao R R R)<|XL.step R (Al 3 (l:= [.d (.v (.string ⟨#[]⟩)), .d (.v (.int .u8 0)), .d (dI 0), .d (dI 0), .d (dI 0), .d (dI 0), .d (dI 0)]) R B6 (by kernel_rfl))<|?_
 exact XL.step R (Af (l':= [.d (.v (.string ⟨#[116,101,110,111,114]⟩)), .d (.v (.int .u8 67)), .d (dI 2), .d (dI 0), .d (dI 26), .d (dI (-2)), .d (dI (-2))]) R R R R Cw R lb (by kernel_rfl))<|za R R<|znr<|zm R R<|za R R<|zn<|zt<|z1 R R (R)
theorem Ari  :XC Tryz.prog 106 [.v (.int .i64 5)] (fun r=>r= .tup [.agg [.v (.string ⟨#[115,111,112,114,97,110,111]⟩), .v (.int .u8 67),dI (-4),dI 0,dI 32,dI (-2),dI (-3)],dI 0]):=by
 refine Ak Eb Tryz.func106 R R lb<|zr<|XL.step R (Al 2 (l:= [.d (.v (.string ⟨#[]⟩)), .d (.v (.int .u8 0)), .d (dI 0), .d (dI 0), .d (dI 0), .d (dI 0), .d (dI 0)]) R B6 (by kernel_rfl))<|za R R<|zn<|zs<|zr<|zm R R<|zp (Ds (Ap R R R) (by decide))<|zm R R<|zm R R<|zp (Ds (A4 R R R) (by decide))<|zq R R R<|zn<|?_
 refine A3 (by kernel_rfl) R<|zi<|zr<|XL.call1 R R (Hh) R<|zm R R<|zp (Dd R R R (by decide) (by decide))<|zp (Ae (s':= .d (.agg ([.v (.string ⟨#[115,111,112,114,97,110,111]⟩), .v (.int .u8 67),dI (-4),dI 0,dI 32,dI (-2),dI (-3)]))) (Hc (k:=4) R R R R Tryz.underlying195 Dy Cw (by decide) (by decide)) (by kernel_rfl))<|?_
 refine XL.step R (Af (l':= [.d (.v (.string ⟨#[115,111,112,114,97,110,111]⟩)), .d (.v (.int .u8 67)), .d (dI (-4)), .d (dI 0), .d (dI 32), .d (dI (-2)), .d (dI (-3))]) R R R R Cw R lb (by kernel_rfl))<|za R R<|zn<|zt<|?_
 exact Ay R (RV.cells R R R Dy lb R) (RV.tmp R R) (R)
theorem Am2  :XC Tryz.prog 75 [.v (.int .i64 5)] (fun r=>r=dI 0):=by
 refine Ak Ek Tryz.func75 R R lb<|zr<|za R R<|znr<|zm R R<|XL.call1 R R (Ari) R<|zm R R<|zp (Ao R R R)<|zp (Ao R R R)<|XL.step R (Al 3 (l:= [.d (.v (.string ⟨#[]⟩)), .d (.v (.int .u8 0)), .d (dI 0), .d (dI 0), .d (dI 0), .d (dI 0), .d (dI 0)]) R B6 (by kernel_rfl))<|?_
 exact XL.step R (Af (l':= [.d (.v (.string ⟨#[115,111,112,114,97,110,111]⟩)), .d (.v (.int .u8 67)), .d (dI (-4)), .d (dI 0), .d (dI 32), .d (dI (-2)), .d (dI (-3))]) R R R R Cw R lb (by kernel_rfl))<|za R R<|znr<|zm R R<|za R R<|zn<|zt<|z1 R R (R)
theorem Arh  :XC Tryz.prog 106 [.v (.int .i64 6)] (fun r=>r= .tup [.agg [.v (.string ⟨#[109,101,122,122,111,115,111,112,114,97,110,111]⟩), .v (.int .u8 67),dI (-2),dI 0,dI 30,dI (-2),dI (-3)],dI 0]):=by
 refine Ak Eb Tryz.func106 R R lb<|zr<|XL.step R (Al 2 (l:= [.d (.v (.string ⟨#[]⟩)), .d (.v (.int .u8 0)), .d (dI 0), .d (dI 0), .d (dI 0), .d (dI 0), .d (dI 0)]) R B6 (by kernel_rfl))<|za R R<|zn<|zs<|zr<|zm R R<|zp (Ds (Ap R R R) (by decide))<|zm R R<|zm R R<|zp (Ds (A4 R R R) (by decide))<|zq R R R<|zn<|?_
 refine A3 (by kernel_rfl) R<|zi<|zr<|XL.call1 R R (Hh) R<|zm R R<|zp (Dd R R R (by decide) (by decide))<|zp (Ae (s':= .d (.agg ([.v (.string ⟨#[109,101,122,122,111,115,111,112,114,97,110,111]⟩), .v (.int .u8 67),dI (-2),dI 0,dI 30,dI (-2),dI (-3)]))) (Hc (k:=5) R R R R Tryz.underlying195 Dy Cw (by decide) (by decide)) (by kernel_rfl))<|?_
 refine XL.step R (Af (l':= [.d (.v (.string ⟨#[109,101,122,122,111,115,111,112,114,97,110,111]⟩)), .d (.v (.int .u8 67)), .d (dI (-2)), .d (dI 0), .d (dI 30), .d (dI (-2)), .d (dI (-3))]) R R R R Cw R lb (by kernel_rfl))<|za R R<|zn<|zt<|?_
 exact Ay R (RV.cells R R R Dy lb R) (RV.tmp R R) (R)
theorem Am1  :XC Tryz.prog 75 [.v (.int .i64 6)] (fun r=>r=dI 0):=by
 refine Ak Ek Tryz.func75 R R lb<|zr<|za R R<|znr<|zm R R<|XL.call1 R R (Arh) R<|zm R R<|zp (Ao R R R)<|zp (Ao R R R)<|XL.step R (Al 3 (l:= [.d (.v (.string ⟨#[]⟩)), .d (.v (.int .u8 0)), .d (dI 0), .d (dI 0), .d (dI 0), .d (dI 0), .d (dI 0)]) R B6 (by kernel_rfl))<|?_
 exact XL.step R (Af (l':= [.d (.v (.string ⟨#[109,101,122,122,111,115,111,112,114,97,110,111]⟩)), .d (.v (.int .u8 67)), .d (dI (-2)), .d (dI 0), .d (dI 30), .d (dI (-2)), .d (dI (-3))]) R R R R Cw R lb (by kernel_rfl))<|za R R<|znr<|zm R R<|za R R<|zn<|zt<|z1 R R (R)
theorem Arg  :XC Tryz.prog 106 [.v (.int .i64 7)] (fun r=>r= .tup [.agg [.v (.string ⟨#[98,97,114,105,116,111,110,101]⟩), .v (.int .u8 70),dI 0,dI 0,dI 24,dI (-2),dI (-3)],dI 0]):=by
 refine Ak Eb Tryz.func106 R R lb<|zr<|XL.step R (Al 2 (l:= [.d (.v (.string ⟨#[]⟩)), .d (.v (.int .u8 0)), .d (dI 0), .d (dI 0), .d (dI 0), .d (dI 0), .d (dI 0)]) R B6 (by kernel_rfl))<|za R R<|zn<|zs<|zr<|zm R R<|zp (Ds (Ap R R R) (by decide))<|zm R R<|zm R R<|zp (Ds (A4 R R R) (by decide))<|zq R R R<|zn<|?_
 refine A3 (by kernel_rfl) R<|zi<|zr<|XL.call1 R R (Hh) R<|zm R R<|zp (Dd R R R (by decide) (by decide))<|zp (Ae (s':= .d (.agg ([.v (.string ⟨#[98,97,114,105,116,111,110,101]⟩), .v (.int .u8 70),dI 0,dI 0,dI 24,dI (-2),dI (-3)]))) (Hc (k:=6) R R R R Tryz.underlying195 Dy Cw (by decide) (by decide)) (by kernel_rfl))<|?_
 refine XL.step R (Af (l':= [.d (.v (.string ⟨#[98,97,114,105,116,111,110,101]⟩)), .d (.v (.int .u8 70)), .d (dI 0), .d (dI 0), .d (dI 24), .d (dI (-2)), .d (dI (-3))]) R R R R Cw R lb (by kernel_rfl))<|za R R<|zn<|zt<|?_
 exact Ay R (RV.cells R R R Dy lb R) (RV.tmp R R) (R)
theorem Am0  :XC Tryz.prog 75 [.v (.int .i64 7)] (fun r=>r=dI 0):=by
 refine Ak Ek Tryz.func75 R R lb<|zr<|za R R<|znr<|zm R R<|XL.call1 R R (Arg) R<|zm R R<|zp (Ao R R R)<|zp (Ao R R R)<|XL.step R (Al 3 (l:= [.d (.v (.string ⟨#[]⟩)), .d (.v (.int .u8 0)), .d (dI 0), .d (dI 0), .d (dI 0), .d (dI 0), .d (dI 0)]) R B6 (by kernel_rfl))<|?_
 exact XL.step R (Af (l':= [.d (.v (.string ⟨#[98,97,114,105,116,111,110,101]⟩)), .d (.v (.int .u8 70)), .d (dI 0), .d (dI 0), .d (dI 24), .d (dI (-2)), .d (dI (-3))]) R R R R Cw R lb (by kernel_rfl))<|za R R<|znr<|zm R R<|za R R<|zn<|zt<|z1 R R (R)
theorem Arf  :XC Tryz.prog 106 [.v (.int .i64 8)] (fun r=>r= .tup [.agg [.v (.string ⟨#[116,114,101,98,108,101,56]⟩), .v (.int .u8 71),dI (-2),dI (-1),dI 27,dI (-1),dI (-3)],dI 0]):=by
 refine Ak Eb Tryz.func106 R R lb<|zr<|XL.step R (Al 2 (l:= [.d (.v (.string ⟨#[]⟩)), .d (.v (.int .u8 0)), .d (dI 0), .d (dI 0), .d (dI 0), .d (dI 0), .d (dI 0)]) R B6 (by kernel_rfl))<|za R R<|zn<|zs<|zr<|zm R R<|zp (Ds (Ap R R R) (by decide))<|zm R R<|zm R R<|zp (Ds (A4 R R R) (by decide))<|zq R R R<|zn<|?_
 refine A3 (by kernel_rfl) R<|zi<|zr<|XL.call1 R R (Hh) R<|zm R R<|zp (Dd R R R (by decide) (by decide))<|zp (Ae (s':= .d (.agg ([.v (.string ⟨#[116,114,101,98,108,101,56]⟩), .v (.int .u8 71),dI (-2),dI (-1),dI 27,dI (-1),dI (-3)]))) (Hc (k:=7) R R R R Tryz.underlying195 Dy Cw (by decide) (by decide)) (by kernel_rfl))<|?_
 refine XL.step R (Af (l':= [.d (.v (.string ⟨#[116,114,101,98,108,101,56]⟩)), .d (.v (.int .u8 71)), .d (dI (-2)), .d (dI (-1)), .d (dI 27), .d (dI (-1)), .d (dI (-3))]) R R R R Cw R lb (by kernel_rfl))<|za R R<|zn<|zt<|?_
 exact Ay R (RV.cells R R R Dy lb R) (RV.tmp R R) (R)
theorem Amz  :XC Tryz.prog 75 [.v (.int .i64 8)] (fun r=>r=dI 0):=by
 refine Ak Ek Tryz.func75 R R lb<|zr<|za R R<|znr<|zm R R<|XL.call1 R R (Arf) R<|zm R R<|zp (Ao R R R)<|zp (Ao R R R)<|XL.step R (Al 3 (l:= [.d (.v (.string ⟨#[]⟩)), .d (.v (.int .u8 0)), .d (dI 0), .d (dI 0), .d (dI 0), .d (dI 0), .d (dI 0)]) R B6 (by kernel_rfl))<|?_
 exact XL.step R (Af (l':= [.d (.v (.string ⟨#[116,114,101,98,108,101,56]⟩)), .d (.v (.int .u8 71)), .d (dI (-2)), .d (dI (-1)), .d (dI 27), .d (dI (-1)), .d (dI (-3))]) R R R R Cw R lb (by kernel_rfl))<|za R R<|znr<|zm R R<|za R R<|zn<|zt<|z1 R R (R)
theorem Are  :XC Tryz.prog 106 [.v (.int .i64 9)] (fun r=>r= .tup [.agg [.v (.string ⟨#[98,97,115,115,56]⟩), .v (.int .u8 70),dI 2,dI (-1),dI 15,dI (-3),dI (-5)],dI 0]):=by
 refine Ak Eb Tryz.func106 R R lb<|zr<|XL.step R (Al 2 (l:= [.d (.v (.string ⟨#[]⟩)), .d (.v (.int .u8 0)), .d (dI 0), .d (dI 0), .d (dI 0), .d (dI 0), .d (dI 0)]) R B6 (by kernel_rfl))<|za R R<|zn<|zs<|zr<|zm R R<|zp (Ds (Ap R R R) (by decide))<|zm R R<|zm R R<|zp (Ds (A4 R R R) (by decide))<|zq R R R<|zn<|?_
 refine A3 (by kernel_rfl) R<|zi<|zr<|XL.call1 R R (Hh) R<|zm R R<|zp (Dd R R R (by decide) (by decide))<|zp (Ae (s':= .d (.agg ([.v (.string ⟨#[98,97,115,115,56]⟩), .v (.int .u8 70),dI 2,dI (-1),dI 15,dI (-3),dI (-5)]))) (Hc (k:=8) R R R R Tryz.underlying195 Dy Cw (by decide) (by decide)) (by kernel_rfl))<|?_
 refine XL.step R (Af (l':= [.d (.v (.string ⟨#[98,97,115,115,56]⟩)), .d (.v (.int .u8 70)), .d (dI 2), .d (dI (-1)), .d (dI 15), .d (dI (-3)), .d (dI (-5))]) R R R R Cw R lb (by kernel_rfl))<|za R R<|zn<|zt<|?_
 exact Ay R (RV.cells R R R Dy lb R) (RV.tmp R R) (R)
theorem Amy  :XC Tryz.prog 75 [.v (.int .i64 9)] (fun r=>r=dI 0):=by
 refine Ak Ek Tryz.func75 R R lb<|zr<|za R R<|znr<|zm R R<|XL.call1 R R (Are) R<|zm R R<|zp (Ao R R R)<|zp (Ao R R R)<|XL.step R (Al 3 (l:= [.d (.v (.string ⟨#[]⟩)), .d (.v (.int .u8 0)), .d (dI 0), .d (dI 0), .d (dI 0), .d (dI 0), .d (dI 0)]) R B6 (by kernel_rfl))<|?_
 exact XL.step R (Af (l':= [.d (.v (.string ⟨#[98,97,115,115,56]⟩)), .d (.v (.int .u8 70)), .d (dI 2), .d (dI (-1)), .d (dI 15), .d (dI (-3)), .d (dI (-5))]) R R R R Cw R lb (by kernel_rfl))<|za R R<|znr<|zm R R<|za R R<|zn<|zt<|z1 R R (R)
theorem Ard (c:Int) (h:c<1∨9<c):XC Tryz.prog 106 [.v (.int .i64 c)] (fun r=>r= .tup [.agg [.v (.string ⟨#[]⟩), .v (.int .u8 0),dI 0,dI 0,dI 0,dI 0,dI 0],dI 11]):=by
 refine Ak Eb Tryz.func106 R R lb<|zr<|XL.step R (Al 2 (l:= [.d (.v (.string ⟨#[]⟩)), .d (.v (.int .u8 0)), .d (dI 0), .d (dI 0), .d (dI 0), .d (dI 0), .d (dI 0)]) R B6 (by kernel_rfl))<|za R R<|zn<|zs<|zr<|zm R R<|zp (Ap R R R)<|zm R R<|?_
 refine XL.dec 6 R (fun g6=> ?_) (fun g6=> ?_)
 refine zk 2 R<|zq R R R<|zn<|Aw (by kernel_rfl) R<|zr<|zp (Ae (s':= .d (.agg [.v (.string ⟨#[]⟩), .v (.int .u8 0),dI 0,dI 0,dI 0,dI 0,dI 0])) (Ac (A0 R Gw B6 R)) (by kernel_rfl))<|XL.step R (Af (l':= [.d (.v (.string ⟨#[]⟩)), .d (.v (.int .u8 0)), .d (dI 0), .d (dI 0), .d (dI 0), .d (dI 0), .d (dI 0)]) R R R R Cw R lb (by kernel_rfl))<|za R R<|zn<|zt<|?_
 exact Ay R (RV.cells R R R Dy lb R) (RV.tmp R R) (R)
 refine zm R R<|zp (A4 R R R)<|zq R R R<|zn<|?_
 refine zd R (fun c9=> ?_) (fun c9=> ?_)
 refine zr<|zp (Ae (s':= .d (.agg [.v (.string ⟨#[]⟩), .v (.int .u8 0),dI 0,dI 0,dI 0,dI 0,dI 0])) (Ac (A0 R Gw B6 R)) (by kernel_rfl))<|XL.step R (Af (l':= [.d (.v (.string ⟨#[]⟩)), .d (.v (.int .u8 0)), .d (dI 0), .d (dI 0), .d (dI 0), .d (dI 0), .d (dI 0)]) R R R R Cw R lb (by kernel_rfl))<|za R R<|zn<|zt<|?_
 exact Ay R (RV.cells R R R Dy lb R) (RV.tmp R R) (R)
 exfalso;omega
theorem Amx (c:Int) (h:c<1∨9<c):XC Tryz.prog 75 [.v (.int .i64 c)] (fun r=>r=dI 11):=by
 refine Ak Ek Tryz.func75 R R lb<|zr<|za R R<|znr<|zm R R<|XL.call1 R R (Ard _ h) R<|zm R R<|zp (Ao R R R)<|zp (Ao R R R)<|XL.step R (Al 3 (l:= [.d (.v (.string ⟨#[]⟩)), .d (.v (.int .u8 0)), .d (dI 0), .d (dI 0), .d (dI 0), .d (dI 0), .d (dI 0)]) R B6 (by kernel_rfl))<|?_
 exact XL.step R (Af (l':= [.d (.v (.string ⟨#[]⟩)), .d (.v (.int .u8 0)), .d (dI 0), .d (dI 0), .d (dI 0), .d (dI 0), .d (dI 0)]) R R R R Cw R lb (by kernel_rfl))<|za R R<|znr<|zm R R<|za R R<|zn<|zt<|z1 R R (R)
theorem Afa (c:Int):XC Tryz.prog 75 [dI c] (fun r=>r=dI (cfE c)):=by
 by_cases h:c<1∨9<c
 ·rw [←Aue h];exact Amx c h
 ·rw [show cfE c=0 by rw [cfE,if_neg h]]
  have h':c=1∨c=2∨c=3∨c=4∨c=5∨c=6∨c=7∨c=8∨c=9:=by omega
  rcases h' with rfl|rfl|rfl|rfl|rfl|rfl|rfl|rfl|rfl
  ·exact Am6
  ·exact Am5
  ·exact Am4
  ·exact Am3
  ·exact Am2
  ·exact Am1
  ·exact Am0
  ·exact Amz
  ·exact Amy
end Go.Proofs.YtaafemnkamfgnaaGreat
namespace Go.Proofs.YtaafemnkamfgnaaGreat
open Go.RowKit
def clF (l:List Cf) (b t:Int):Int:=l.foldl (fun b c=>if c.tk≤t then c.clef else b) b
def Ms.cell (m:Ms) (s:Int):Ce:=(m.cells[s.toNat]?).getD ⟨[], []⟩
def clA (m:Ms) (s b t:Int):Int × Int:=if s<0∨(m.cells.length:Int)≤s then (0,2) else if cfE b≠0 then (0,cfE b) else (clF (m.cell s).clefs b t,0)
end Go.Proofs.YtaafemnkamfgnaaGreat
namespace Go.Proofs.YtaafemnkamfgnaaGreat
open Go.RowKit
def fsE (f:Nat→Int):Nat→Int
 |0=>0
 |n+1=>if fsE f n≠0 then fsE f n else f n
theorem Nq {f:Nat→Int}:∀{n:Nat},(∀j,j<n→f j=0)→fsE f n=0
 |0,_=>rfl
 |n+1,h=>by rw [fsE,Nq fun j hj=>h j (by omega),if_neg (by decide)];exact h n (by omega)
theorem Zi {f:Nat→Int} {k:Nat} (h:fsE f k≠0):∀{n:Nat},k≤n→fsE f n=fsE f k
 |0,hn=>by rw [show k=0 by omega]
 |n+1,hn=>by
  by_cases e:k=n+1
  ·rw [e]
  ·have ih:=Zi h (n:=n) (by omega)
   rw [fsE,ih,if_pos h]
theorem Fq {f:Nat→Int} {k n:Nat} (h:∀j,j<k→f j=0) (hk:k<n) (h2:f k≠0):fsE f n=f k:=by
 have e:fsE f (k+1)=f k:=by rw [fsE,Nq h,if_neg (by decide)]
 rw [Zi (k:=k+1) (by rw [e];exact h2) hk,e]
theorem Gs {f:Nat→Int} {k:Nat} (h:∀j,j<k→f j=0) (h2:f k=0):∀j,j<k+1→f j=0:=fun j hj=>by
 by_cases e:j=k
 ·rw [e];exact h2
 ·exact h j (by omega)
theorem Od {f:Nat→Int}:∀j,j<0→f j=0:=fun j h=>absurd h (Nat.not_lt_zero _)
def Kf (L:Int) (l:List Cf) (i:Nat):Int:=
 match l[i]? with
 |none=>0
 |some x=>if cfE x.clef≠0 then cfE x.clef else if x.tk<0∨L≤x.tk then 2 else
  match l[i - 1]? with
  |none=>0
  |some y=>if 0<i∧x.tk≤y.tk then 25 else 0
def Gq (L:Int) (l:List Cf):Int:=fsE (Kf L l) l.length
theorem Akc {L:Int} {l:List Cf} {i:Nat} {x:Cf} (h:l[i]? =some x) (h1:cfE x.clef≠0):Kf L l i=cfE x.clef:=by rw [Kf,h];simp only;rw [if_pos h1]
theorem Uu {L:Int} {l:List Cf} {i:Nat} {x:Cf} (h:l[i]? =some x) (h1:¬cfE x.clef≠0) (h2:x.tk<0∨L≤x.tk):Kf L l i=2:=by rw [Kf,h];simp only;rw [if_neg h1,if_pos h2]
theorem Akb {L:Int} {l:List Cf} {i:Nat} {x y:Cf} (h:l[i]? =some x) (hy:l[i - 1]? =some y) (h1:¬cfE x.clef≠0) (h2:¬(x.tk<0∨L≤x.tk)) (h3:0<i∧x.tk≤y.tk):Kf L l i=25:=by
 rw [Kf,h];simp only;rw [if_neg h1,if_neg h2,hy];simp only;rw [if_pos h3]
theorem Ut {L:Int} {l:List Cf} {i:Nat} {x:Cf} (h:l[i]? =some x) (h1:¬cfE x.clef≠0) (h2:¬(x.tk<0∨L≤x.tk)) (h3:i=0∨∀y,l[i - 1]? =some y→¬x.tk≤y.tk):Kf L l i=0:=by
 rw [Kf,h];simp only;rw [if_neg h1,if_neg h2]
 cases hy:l[i - 1]? with
 |none=>rfl
 |some y=>
  simp only
  rw [if_neg]
  rintro ⟨q1,q2⟩
  rcases h3 with h3|h3
  ·omega
  ·exact h3 y hy q2
def vAt (L:Int) (l:List Vo) (i:Nat):Int:=match l[i]? with|none=>0|some v=>vE L v
theorem Ty {L:Int} {l:List Vo} {i:Nat} {v:Vo} (h:l[i]? =some v):vAt L l i=vE L v:=by rw [vAt,h]
def ceE (L:Int) (c:Ce):Int:=if Gq L c.clefs≠0 then Gq L c.clefs else if 2<(c.voices.length:Int) then 9 else
 match c.voices[0]? with
 |none=>10
 |some v=>if v.evs.length=0 then 10 else fsE (vAt L c.voices) c.voices.length
theorem An4 {L:Int} {c:Ce} (h:Gq L c.clefs≠0):ceE L c=Gq L c.clefs:=by rw [ceE,if_pos h]
theorem An3 {L:Int} {c:Ce} (h:¬Gq L c.clefs≠0) (h2:2<(c.voices.length:Int)):ceE L c=9:=by rw [ceE,if_neg h,if_pos h2]
theorem An2 {L:Int} {c:Ce} (h:¬Gq L c.clefs≠0) (h2:¬2<(c.voices.length:Int)) (h3:c.voices.length=0):ceE L c=10:=by
 rw [ceE,if_neg h,if_neg h2,List.getElem?_eq_none (by omega)]
theorem An1 {L:Int} {c:Ce} {v:Vo} (h:¬Gq L c.clefs≠0) (h2:¬2<(c.voices.length:Int)) (hv:c.voices[0]? =some v) (h3:v.evs.length=0):ceE L c=10:=by
 rw [ceE,if_neg h,if_neg h2,hv];simp only;rw [if_pos h3]
theorem Xr {L:Int} {c:Ce} {v:Vo} (h:¬Gq L c.clefs≠0) (h2:¬2<(c.voices.length:Int)) (hv:c.voices[0]? =some v) (h3:¬v.evs.length=0):ceE L c=fsE (vAt L c.voices) c.voices.length:=by
 rw [ceE,if_neg h,if_neg h2,hv];simp only;rw [if_neg h3]
def Vl (L:Int) (l:List Ce) (i:Nat):Int:=match l[i]? with|none=>0|some c=>ceE L c
theorem Afe {L:Int} {l:List Ce} {i:Nat} {c:Ce} (h:l[i]? =some c):Vl L l i=ceE L c:=by rw [Vl,h]
def chE (m:Ms) (n:Int):Int:=if mlE m.h.m m.h.len≠0 then mlE m.h.m m.h.len else if m.h.fifths< -7∨7<m.h.fifths then 2 else if (m.cells.length:Int)≠n then 20 else fsE (Vl (mlV m.h.m m.h.len) m.cells) m.cells.length
theorem An0 {m:Ms} {n:Int} (h:mlE m.h.m m.h.len≠0):mlE m.h.m m.h.len=chE m n:=by rw [chE,if_pos h]
theorem Xq {m:Ms} {n:Int} (h:¬mlE m.h.m m.h.len≠0) (h2:m.h.fifths< -7∨7<m.h.fifths):2=chE m n:=by rw [chE,if_neg h,if_pos h2]
theorem Anz {m:Ms} {n:Int} (h:¬mlE m.h.m m.h.len≠0) (h2:¬(m.h.fifths< -7∨7<m.h.fifths)) (h3:(m.cells.length:Int)≠n):20=chE m n:=by rw [chE,if_neg h,if_neg h2,if_pos h3]
theorem Ke {m:Ms} {n:Int} (h:¬mlE m.h.m m.h.len≠0) (h2:¬(m.h.fifths< -7∨7<m.h.fifths)) (h3:¬(m.cells.length:Int)≠n):chE m n=fsE (Vl (mlV m.h.m m.h.len) m.cells) m.cells.length:=by rw [chE,if_neg h,if_neg h2,if_neg h3]
theorem Ag4 (l:List Cf) (L:Int):XC Tryz.prog 114 [.sl 2 (l.map Cf.c), .v (.int .i64 L)] (fun r=>r=dI (Gq L l)):=by
 refine Ak Ab3 Tryz.func114 R R lb<|zr<|za R R<|zn<|zs<|zr<|zm R R<|XL.len R R R Tryz.underlying75 fun hl9=>zm R R<|zn<|Ah<|?_
 refine Az (α:=Nat) (fun k=>k≤l.length∧∀j,j<k→Kf L l j=0) (fun k=>mkF [(0, .d (.sl 2 (l.map Cf.c))),(1, .d (dI L)),(8, .d (.sl 2 (l.map Cf.c))),(9, .d (dI l.length)),(10, .d (dI k))]) (fun k=>mkH []) (fun k=>l.length - k) (0) (⟨Nat.zero_le _,Od⟩) ?_ ?_ ?_
 exact fz ⟨sr,sr,sr,sr,sr,trivial⟩
 exact HSub.nil
 intro k hk0
 obtain ⟨hk,hf⟩:=hk0
 refine zr<|zp (Ap R R R)<|zn<|zs<|?_
 refine zd R (fun c11=> ?_) (fun c11=> ?_)
 have hk0a:k<l.length:=by omega
 obtain ⟨x0,hx0⟩:=Ax hk0a
 refine zi<|zs<|Ah<|zr<|zm R R<|zp (Aq R R R Iw hx0)<|zp (Ae (s':= .d (.agg (Cf.c x0))) (A8 R R Q0 lb) (by kernel_rfl))<|XL.step R (Al 6 (l:= [.d (dI 0), .d (dI 0)]) R Q1 (by kernel_rfl))<|za R R<|XL.step R (Af (l':= [.d (dI x0.tk), .d (dI x0.clef)]) R R R R Xg R lb (by kernel_rfl))<|zn<|zs<|zr<|zp (Aa R R Zl)<|?_
 refine zp (Ab R R Ai R R)<|XL.call1 R R (Afa _) R<|za R R<|znr<|zm R R<|zp (A1 R R R)<|zn<|?_
 refine zd R (fun c19=> ?_) (fun c19=> ?_)
 exact zr<|zm R R<|za R R<|zn<|zt<|z1 R R (rI (by have e:=Akc (L:=L) hx0 c19;rw [Gq,Fq hf (by omega) (by rw [e];exact c19),e]))
 refine zi<|Ah<|zr<|zp (Aa R R Hi)<|zp (Ab R R Ai R R)<|zp (Ap R R R)<|zm R R<|?_
 refine XL.dec 25 R (fun g25=> ?_) (fun g25=> ?_)
 exact zk 4 R<|zq R R R<|za R R<|zn<|Aw (by kernel_rfl) R<|zr<|za R R<|zn<|zt<|z1 R R (rI (by have e:=Uu (L:=L) hx0 c19 (by omega);rw [Gq,Fq hf (by omega) (by rw [e];exact by decide),e]))
 refine zp (Aa R R Hi)<|zp (Ab R R Ai R R)<|zm R R<|zp (Fj R R R)<|zq R R R<|za R R<|zn<|?_
 refine zd R (fun c21=> ?_) (fun c21=> ?_)
 exact zr<|za R R<|zn<|zt<|z1 R R (rI (by have e:=Uu (L:=L) hx0 c19 (by omega);rw [Gq,Fq hf (by omega) (by rw [e];exact by decide),e]))
 refine zs<|?_
 by_cases q33:(0:Int)<(k:Int)
 have hi1:(k:Int) - 1=((k - 1:Nat):Int):=by omega
 obtain ⟨y,hy1⟩:∃y,l[k - 1]? =some y:=Ax (by omega)
 refine B1 [] (by kernel_rfl) (by kernel_rfl) (by kernel_rfl) (by decide)<|ym R R<|yp (Dz (A4 R R R) (q33))<|ym R R<|yp (Aa R R Hi)<|yp (Ab R R Ai R R)<|ym R R<|ym R R<|yp (Dd R R R (by omega) (by omega))<|yp (Ip R R R (hi1) Iw (hy1))<|yp (Dt R R Hi)<|yp (A7 R R Ai)<|yp (Ku R R R)<|yp (Bl R R (by conv=>lhs;whnf))<|?_
 refine ya R R<|?_
 refine ChK.nil ⟨by kernel_rfl, ?_⟩
 refine zd R (fun c31=> ?_) (fun c31=> ?_)
 exact zr<|za R R<|zn<|zt<|z1 R R (rI (by have e:=Akb (L:=L) hx0 hy1 c19 (by omega) (by omega);rw [Gq,Fq hf (by omega) (by rw [e];exact by decide),e]))
 refine zi<|Ag (by kernel_rfl)<|zp (Am R R R (by omega) (by omega))<|zm R R<|zn<|?_
 exact An (k+1) (⟨by omega,Gs hf (Ut hx0 c19 (by omega) (.inr fun y hy=>by rw [hy1] at hy;cases hy;omega))⟩) (by omega) (fz ⟨sr,sr,sr,sr,sr,trivial⟩) (HSub.nil)
 refine B1 [] (by kernel_rfl) (by kernel_rfl) (by kernel_rfl) (by decide)<|ym R R<|yp (Ds (A4 R R R) (q33))<|ym R R<|ChK.skip R<|ChK.skip R<|ChK.skip R<|ChK.skip R<|ChK.skip R<|ChK.skip R<|ChK.skip R<|ChK.skip R<|ChK.skip R<|yp (Bl R R (by conv=>lhs;whnf))<|?_
 refine ya R R<|?_
 refine ChK.nil ⟨by kernel_rfl, ?_⟩
 refine A3 (by kernel_rfl) R<|zi<|Ag (by kernel_rfl)<|zp (Am R R R (by omega) (by omega))<|zm R R<|zn<|?_
 exact An (k+1) (⟨by omega,Gs hf (Ut hx0 c19 (by omega) (.inl (by omega)))⟩) (by omega) (fz ⟨sr,sr,sr,sr,sr,trivial⟩) (HSub.nil)
 have hk0b:k=l.length:=by omega
 exact Av<|zr<|za R R<|zn<|zt<|z1 R R (rI (by rw [Gq,Nq (fun j hj=>hf j (by omega))]))
theorem Aj9 (c:Ce) (L:Int) (hE:∀v∈c.voices,Evs v.evs):XC Tryz.prog 91 [.agg (Ce.c c), .v (.int .i64 L)] (fun r=>r=dI (ceE L c)):=by
 refine Ak Ac8 Tryz.func91 R R lb<|zr<|XL.step R (Ar 2 (l:= [.d (.sl 2 (c.clefs.map Cf.c)), .d (.sl 2 (c.voices.map Vo.c))]) R R (by kernel_rfl))<|za R R<|zn<|zs<|zr<|zp (Aa R R Ee)<|zp (Ab R R I7 R R)<|zm R R<|XL.call1 R R (Ag4 _ _) R<|za R R<|znr<|zm R R<|?_
 refine zp (A1 R R R)<|zn<|?_
 refine zd R (fun c14=> ?_) (fun c14=> ?_)
 exact zr<|zm R R<|za R R<|zn<|zt<|z1 R R (rI (An4 (by assumption)).symm)
 refine zi<|zs<|Ah<|zr<|zp (Aa R R Cs)<|zp (Ab R R Ez R R)<|XL.len R R R Tryz.underlying76 fun hl19=>zp (A4 R R R)<|za R R<|zn<|?_
 refine zd R (fun c16=> ?_) (fun c16=> ?_)
 exact zr<|za R R<|zn<|zt<|z1 R R (rI (An3 (by omega) (by omega)).symm)
 refine zr<|zp (Aa R R Cs)<|zp (Ab R R Ez R R)<|XL.len R R R Tryz.underlying76 fun hl24=>zp (Ba R R R)<|zm R R<|?_
 refine XL.dec 26 R (fun g26=> ?_) (fun g26=> ?_)
 exact zk 6 R<|zq R R R<|za R R<|zn<|Aw (by kernel_rfl) R<|zr<|za R R<|zn<|zt<|z1 R R (rI (An2 (by omega) (by omega) (by omega)).symm)
 refine zp (Aa R R Cs)<|zp (Ab R R Ez R R)<|?_
 obtain ⟨v,hv⟩:∃v,c.voices[0]? =some v:=Ax (by omega)
 refine zp (Aq (k:=0) R R R Kb (hv))<|zp (Ae (s':= .d (.agg (Vo.c v))) (A8 R R As lb) (by kernel_rfl))<|XL.call1 R R (Ow _) R<|zp (E6 R R)<|zq R R R<|za R R<|zn<|?_
 refine zd R (fun c21=> ?_) (fun c21=> ?_)
 exact zr<|za R R<|zn<|zt<|z1 R R (rI (An1 (by omega) (by omega) hv (by omega)).symm)
 refine zi<|zs<|zr<|zp (Aa R R Cs)<|zp (Ab R R Ez R R)<|XL.len R R R Tryz.underlying76 fun hl36=>zm R R<|zn<|Ah<|?_
 refine Az (α:=Nat) (fun k=>k≤c.voices.length∧∀j,j<k→vAt L c.voices j=0) (fun k=>mkF [(1, .d (dI L)),(35, .d (.sl 2 (c.voices.map Vo.c))),(36, .d (dI c.voices.length)),(37, .d (dI k))]) (fun k=>mkH []) (fun k=>c.voices.length - k) (0) (⟨Nat.zero_le _,Od⟩) ?_ ?_ ?_
 exact fz ⟨sr,sr,sr,sr,trivial⟩
 exact HSub.nil
 intro k hk1
 obtain ⟨hk,hf⟩:=hk1
 refine zr<|zp (Ap R R R)<|zn<|zs<|?_
 refine zd R (fun c38=> ?_) (fun c38=> ?_)
 have hk1a:k<c.voices.length:=by omega
 obtain ⟨x1,hx1⟩:=Ax hk1a
 have hEv:=hE x1 (List.mem_of_getElem? hx1)
 have hva:=Ty (L:=L) hx1
 refine zi<|zs<|Ah<|zr<|zp (Aq R R R Kb hx1)<|zp (Ae (s':= .d (.agg (Vo.c x1))) (A8 R R As lb) (by kernel_rfl))<|XL.step R (Al 7 (l:= [.d (.v (.slice none 0 0)), .d (.v (.slice none 0 0))]) R Bc (by kernel_rfl))<|XL.step R (Af (l':= [.d (.sl 13 (x1.evs.map Ev.c)), .d (.sl 4 (x1.tups.map Tp.c))]) R R R R Bm R lb (by kernel_rfl))<|zn<|zs<|zr<|?_
 refine zp (Ae (s':= .d (.agg (Vo.c x1))) (Ac (Ad R R As R lb)) (by kernel_rfl))<|XL.call1 R R (Ow _) R<|zp (E6 R R)<|zn<|?_
 refine zd R (fun c43=> ?_) (fun c43=> ?_)
 refine Av<|Ag (by kernel_rfl)<|zp (Am R R R (by omega) (by omega))<|zm R R<|zn<|?_
 exact An (k+1) (⟨by omega,Gs hf (by rw [hva,Akv (by omega)])⟩) (by omega) (fz ⟨sr,sr,sr,sr,trivial⟩) (HSub.nil)
 refine zi<|zr<|zp (Ae (s':= .d (.agg (Vo.c x1))) (Ac (Ad R R As R lb)) (by kernel_rfl))<|zm R R<|XL.call1 R R (Ji _ _ (by assumption)) R<|za R R<|znr<|zm R R<|zp (A1 R R R)<|zn<|?_
 refine zd R (fun c48=> ?_) (fun c48=> ?_)
 exact zr<|zm R R<|za R R<|zn<|zt<|z1 R R (rI (by rw [Xr (by omega) (by omega) hv (by omega),Fq hf (by omega) (by rw [hva,Nu (by omega)];assumption),hva,Nu (by omega)]))
 refine zi<|Ag (by kernel_rfl)<|zp (Am R R R (by omega) (by omega))<|zm R R<|zn<|?_
 exact An (k+1) (⟨by omega,Gs hf (by rw [hva,Nu (by omega)];omega)⟩) (by omega) (fz ⟨sr,sr,sr,sr,trivial⟩) (HSub.nil)
 have hk1b:k=c.voices.length:=by omega
 exact Av<|zr<|za R R<|zn<|zt<|z1 R R (rI (by rw [Xr (by omega) (by omega) hv (by omega),Nq (fun j hj=>hf j (by omega))]))
theorem Ake {m:Ms} (h:m.evs) {k:Nat} {c:Ce} (hc:m.cells[k]? =some c):∀v∈c.voices,Evs v.evs:=h c (List.mem_of_getElem? hc)
theorem Apc (m:Ms) (n:Int) (hE:m.evs):XC Tryz.prog 51 [.agg (Ms.c m), .v (.int .i64 n)] (fun r=>r=dI (chE m n)):=by
 refine Ak Adt Tryz.func51 R R lb<|zr<|?_
 refine XL.step R (Ar 2 (l:= [.d (dI m.h.site), .d (dI m.h.num), .d (dI m.h.m.count), .d (dI m.h.m.unit), .d (dI m.h.m.g0), .d (dI m.h.m.g1), .d (dI m.h.m.g2), .d (dI m.h.m.g3), .d (dI m.h.m.g4), .d (dI m.h.m.g5), .d (dI m.h.len), .d (dI m.h.fifths), .d (dB m.h.start), .d (dI m.h.fin), .d (dI m.h.ends), .d (dI m.h.jump), .d (dI m.h.labels), .d (dI m.h.swing), .d (dI m.h.brk), .d (.v (.string ⟨m.h.reh.toArray⟩)), .d (.sl 3 (m.tempi.map Tm.c)), .d (.sl 2 (m.cells.map Ce.c))]) R R (by kernel_rfl))<|?_
 refine za R R<|znr<|zp (Ae (s':= .d (.agg (Ms.c m))) (Ac (Ad R R Cb R lb)) (by kernel_rfl))<|XL.call1 R R (Nm m.h m.tempi m.cells) R<|zm R R<|zp (Ao R R R)<|zp (Ao R R R)<|za R R<|za R R<|zn<|zs<|Ah<|zr<|zm R R<|?_
 refine zp (A1 R R R)<|za R R<|zn<|?_
 refine zd R (fun c15=> ?_) (fun c15=> ?_)
 exact zr<|zm R R<|za R R<|zn<|zt<|z1 R R (rI (An0 (by assumption)))
 refine zr<|zp (Aa R R O8)<|zp (Ab R R Ai R R)<|zp (Ap R R R)<|zm R R<|?_
 refine XL.dec 23 R (fun g23=> ?_) (fun g23=> ?_)
 exact zk 3 R<|zq R R R<|za R R<|zn<|Aw (by kernel_rfl) R<|zr<|za R R<|zn<|zt<|z1 R R (rI (Xq (by omega) (by omega)))
 refine zp (Aa R R O8)<|zp (Ab R R Ai R R)<|zp (A4 R R R)<|zq R R R<|za R R<|zn<|?_
 refine zd R (fun c19=> ?_) (fun c19=> ?_)
 exact zr<|za R R<|zn<|zt<|z1 R R (rI (Xq (by omega) (by omega)))
 refine zr<|zp (Aa R R Cu)<|zp (Ab R R Gu R R)<|XL.len R R R Tryz.underlying28 fun hl31=>zm R R<|zp (A1 R R R)<|za R R<|zn<|?_
 refine zd R (fun c28=> ?_) (fun c28=> ?_)
 exact zr<|za R R<|zn<|zt<|z1 R R (rI (Anz (by omega) (by omega) (by omega)))
 refine zi<|zs<|zr<|zp (Aa R R Cu)<|zp (Ab R R Gu R R)<|XL.len R R R Tryz.underlying28 fun hl36=>zm R R<|zn<|Ah<|?_
 refine Az (α:=Nat) (fun k=>k≤m.cells.length∧∀j,j<k→Vl (mlV m.h.m m.h.len) m.cells j=0) (fun k=>mkF [(5, .d (dI (mlV m.h.m m.h.len))),(35, .d (.sl 2 (m.cells.map Ce.c))),(36, .d (dI m.cells.length)),(37, .d (dI k))]) (fun k=>mkH []) (fun k=>m.cells.length - k) (0) (⟨Nat.zero_le _,Od⟩) ?_ ?_ ?_
 exact fz ⟨sr,sr,sr,sr,trivial⟩
 exact HSub.nil
 intro k hk1
 obtain ⟨hk,hf⟩:=hk1
 refine zr<|zp (Ap R R R)<|zn<|zs<|?_
 refine zd R (fun c38=> ?_) (fun c38=> ?_)
 have hk1a:k<m.cells.length:=by omega
 obtain ⟨x1,hx1⟩:=Ax hk1a
 have hEv:=Ake hE hx1
 have hca:=Afe (L:=(mlV m.h.m m.h.len)) hx1
 refine zi<|zs<|Ah<|zr<|zp (Aq R R R Kc hx1)<|zp (Ae (s':= .d (.agg (Ce.c x1))) (A8 R R I5 lb) (by kernel_rfl))<|XL.step R (Al 8 (l:= [.d (.v (.slice none 0 0)), .d (.v (.slice none 0 0))]) R Fw (by kernel_rfl))<|XL.step R (Af (l':= [.d (.sl 2 (x1.clefs.map Cf.c)), .d (.sl 2 (x1.voices.map Vo.c))]) R R R R Kt R lb (by kernel_rfl))<|znr<|?_
 refine zp (Ae (s':= .d (.agg (Ce.c x1))) (Ac (Ad R R I5 R lb)) (by kernel_rfl))<|zm R R<|XL.call1 R R (Aj9 _ _ (by assumption)) R<|za R R<|znr<|zm R R<|zp (A1 R R R)<|zn<|?_
 refine zd R (fun c45=> ?_) (fun c45=> ?_)
 exact zr<|zm R R<|za R R<|zn<|zt<|z1 R R (rI (by rw [Ke (by omega) (by omega) (by omega),Fq hf (by omega) (by rw [hca];assumption),hca]))
 refine zi<|Ag (by kernel_rfl)<|zp (Am R R R (by omega) (by omega))<|zm R R<|zn<|?_
 exact An (k+1) (⟨by omega,Gs hf (by rw [hca];omega)⟩) (by omega) (fz ⟨sr,sr,sr,sr,trivial⟩) (HSub.nil)
 have hk1b:k=m.cells.length:=by omega
 exact Av<|zr<|za R R<|zn<|zt<|z1 R R (rI (by rw [Ke (by omega) (by omega) (by omega),Nq (fun j hj=>hf j (by omega))]))
theorem Us {L:Int} {l:List Cf} {k:Nat} {e:Int} (h:∀j,j<k→Kf L l j=0) (hk:k<l.length) (h2:Kf L l k=e) (h3:e≠0):Gq L l=e:=by rw [Gq,Fq h hk (by rw [h2];exact h3),h2]
theorem Atp {L:Int} {l:List Cf} {k:Nat} (h:∀j,j<k→Kf L l j=0) (hk:¬k<l.length):¬Gq L l≠0:=by rw [Gq,Nq (fun j hj=>h j (by omega))];decide
theorem Rm {L:Int} {c:Ce} {e:Int} (h:Gq L c.clefs=e) (h2:e≠0):ceE L c=e:=by rw [An4 (by rw [h];exact h2),h]
theorem Auf {L:Int} {c:Ce} {v w:Vo} {k:Nat} {e:Int} (h:¬Gq L c.clefs≠0) (h2:¬2<(c.voices.length:Int)) (hv:c.voices[0]? =some v) (h3:¬v.evs.length=0) (hf:∀j,j<k→vAt L c.voices j=0) (hw:c.voices[k]? =some w) (h4:vE L w=e) (h5:e≠0):ceE L c=e:=by
 rw [Xr h h2 hv h3,Fq hf (List.getElem?_eq_some_iff.1 hw).1 (by rw [Ty hw,h4];exact h5),Ty hw,h4]
theorem Atq {L:Int} {c:Ce} {v:Vo} {k:Nat} (h:¬Gq L c.clefs≠0) (h2:¬2<(c.voices.length:Int)) (hv:c.voices[0]? =some v) (h3:¬v.evs.length=0) (hf:∀j,j<k→vAt L c.voices j=0) (hk:¬k<c.voices.length):ceE L c=0:=by
 rw [Xr h h2 hv h3,Nq (fun j hj=>hf j (by omega))]
theorem Ai6 (m:Ms) (n:Int) (hE:m.evs):XC Tryz.prog 49 [.agg (Ms.c m), .v (.int .i64 n)] (fun r=>r=dI (chE m n)):=by
 refine Ak Adu Tryz.func49 R R lb<|zr<|?_
 refine XL.step R (Ar 2 (l:= [.d (dI m.h.site), .d (dI m.h.num), .d (dI m.h.m.count), .d (dI m.h.m.unit), .d (dI m.h.m.g0), .d (dI m.h.m.g1), .d (dI m.h.m.g2), .d (dI m.h.m.g3), .d (dI m.h.m.g4), .d (dI m.h.m.g5), .d (dI m.h.len), .d (dI m.h.fifths), .d (dB m.h.start), .d (dI m.h.fin), .d (dI m.h.ends), .d (dI m.h.jump), .d (dI m.h.labels), .d (dI m.h.swing), .d (dI m.h.brk), .d (.v (.string ⟨m.h.reh.toArray⟩)), .d (.sl 3 (m.tempi.map Tm.c)), .d (.sl 2 (m.cells.map Ce.c))]) R R (by kernel_rfl))<|?_
 refine za R R<|znr<|zp (Ae (s':= .d (.agg (Ms.c m))) (Ac (Ad R R Cb R lb)) (by kernel_rfl))<|XL.call1 R R (Ai2 m.h m.tempi m.cells) R<|zm R R<|zp (Ao R R R)<|zp (Ao R R R)<|za R R<|za R R<|zn<|zs<|Ah<|zr<|zm R R<|?_
 refine zp (A1 R R R)<|za R R<|zn<|?_
 refine zd R (fun c18=> ?_) (fun c18=> ?_)
 exact zr<|zm R R<|za R R<|zn<|zt<|z1 R R (rI (An0 (by assumption)))
 refine zr<|zp (Aa R R O8)<|zp (Ab R R Ai R R)<|zp (Ap R R R)<|zm R R<|?_
 refine XL.dec 26 R (fun g26=> ?_) (fun g26=> ?_)
 exact zk 3 R<|zq R R R<|za R R<|zn<|Aw (by kernel_rfl) R<|zr<|za R R<|zn<|zt<|z1 R R (rI (Xq (by omega) (by omega)))
 refine zp (Aa R R O8)<|zp (Ab R R Ai R R)<|zp (A4 R R R)<|zq R R R<|za R R<|zn<|?_
 refine zd R (fun c22=> ?_) (fun c22=> ?_)
 exact zr<|za R R<|zn<|zt<|z1 R R (rI (Xq (by omega) (by omega)))
 refine zr<|zp (Aa R R Cu)<|zp (Ab R R Gu R R)<|XL.len R R R Tryz.underlying28 fun hl34=>zm R R<|zp (A1 R R R)<|za R R<|zn<|?_
 refine zd R (fun c31=> ?_) (fun c31=> ?_)
 exact zr<|za R R<|zn<|zt<|z1 R R (rI (Anz (by omega) (by omega) (by omega)))
 refine zi<|zs<|zr<|za R R<|zn<|Ah<|?_
 refine Az (α:=Nat) (fun k=>k≤m.cells.length∧∀j,j<k→Vl (mlV m.h.m m.h.len) m.cells j=0) (fun k=>mkF [(2, .ptr 2 0 0),(5, .d (dI (mlV m.h.m m.h.len))),(7, .d (dI k))]) (fun k=>mkH [(2, .box ((Ms.c m).map S.d))]) (fun k=>m.cells.length - k) (0) (⟨Nat.zero_le _,Od⟩) ?_ ?_ ?_
 exact fz ⟨sr,sr,sr,trivial⟩
 exact gz ⟨R,trivial⟩
 intro k hk1
 obtain ⟨hk,hf⟩:=hk1
 refine zs<|zr<|zm R R<|zp (Aa R R Cu)<|zp (Ab R R Gu R R)<|XL.len R R R Tryz.underlying28 fun hl40=>zp (Ap R R R)<|zn<|?_
 refine zd R (fun c41=> ?_) (fun c41=> ?_)
 have hkl:k<m.cells.length:=by omega
 obtain ⟨x,hx⟩:=Ax hkl
 have hEv:=Ake hE hx
 have hca:=Afe (L:=(mlV m.h.m m.h.len)) hx
 refine zi<|zs<|Ah<|zr<|zp (Aa R R Cu)<|zp (Ab R R Gu R R)<|zm R R<|zp (Aq R R R Kc (hx))<|zp (Ae (s':= .d (.agg (Ce.c x))) (A8 R R I5 lb) (by kernel_rfl))<|XL.step R (Al 8 (l:= [.d (.v (.slice none 0 0)), .d (.v (.slice none 0 0))]) R Fw (by kernel_rfl))<|?_
 refine XL.step R (Af (l':= [.d (.sl 2 (x.clefs.map Cf.c)), .d (.sl 2 (x.voices.map Vo.c))]) R R R R Kt R lb (by kernel_rfl))<|zn<|zs<|zr<|za R R<|zn<|Ah<|?_
 refine Az (α:=Nat) (fun j=>j≤x.clefs.length∧∀i,i<j→Kf (mlV m.h.m m.h.len) x.clefs i=0) (fun j=>mkF [(2, .ptr 2 0 0),(5, .d (dI (mlV m.h.m m.h.len))),(7, .d (dI k)),(8, .ptr 8 0 0),(9, .d (dI j))]) (fun j=>mkH [(2, .box ((Ms.c m).map S.d)),(8, .box ((Ce.c x).map S.d))]) (fun j=>x.clefs.length - j) (0) (⟨Nat.zero_le _,Od⟩) ?_ ?_ ?_
 exact fz ⟨sr,sr,sr,sr,sr,trivial⟩
 exact gz ⟨R,R,trivial⟩
 intro j hk3
 obtain ⟨hj,hf3⟩:=hk3
 refine zs<|zr<|zm R R<|zp (Aa R R Ee)<|zp (Ab R R I7 R R)<|XL.len R R R Tryz.underlying75 fun hl52=>zp (Ap R R R)<|zn<|?_
 refine zd R (fun c53=> ?_) (fun c53=> ?_)
 have hjl:j<x.clefs.length:=by omega
 obtain ⟨y,hy⟩:=Ax hjl
 refine zi<|zs<|Ah<|zs<|zr<|zp (Aa R R Ee)<|zp (Ab R R I7 R R)<|zm R R<|zp (Aq R R R Iw (hy))<|zp (Dt R R Zl)<|zp (A7 R R Ai)<|XL.call1 R R (Afa _) R<|za R R<|znr<|?_
 refine zm R R<|zp (A1 R R R)<|zn<|?_
 refine zd R (fun c64=> ?_) (fun c64=> ?_)
 exact zr<|zm R R<|za R R<|zn<|zt<|z1 R R (rI (by have e:=Rm (Us hf3 hjl (Akc (L:=(mlV m.h.m m.h.len)) hy (by assumption)) (by assumption)) (by assumption);rw [Ke (by omega) (by omega) (by omega),Fq hf (by omega) (by rw [hca,e];first|assumption|decide),hca,e]))
 refine zi<|zs<|zr<|zp (Aa R R Ee)<|zp (Ab R R I7 R R)<|zm R R<|zp (Aq R R R Iw (hy))<|zp (Dt R R Hi)<|zp (A7 R R Ai)<|zp (Ap R R R)<|zm R R<|?_
 refine XL.dec 73 R (fun g73=> ?_) (fun g73=> ?_)
 exact zk 8 R<|zq R R R<|zn<|Aw (by kernel_rfl) R<|zr<|za R R<|zn<|zt<|z1 R R (rI (by have e:=Rm (Us hf3 hjl (Uu (L:=(mlV m.h.m m.h.len)) hy (by omega) (by omega)) (by decide)) (by decide);rw [Ke (by omega) (by omega) (by omega),Fq hf (by omega) (by rw [hca,e];first|assumption|decide),hca,e]))
 refine zp (Aa R R Ee)<|zp (Ab R R I7 R R)<|zm R R<|zp (Aq R R R Iw (hy))<|zp (Dt R R Hi)<|zp (A7 R R Ai)<|zm R R<|zp (Fj R R R)<|zq R R R<|zn<|?_
 refine zd R (fun c82=> ?_) (fun c82=> ?_)
 exact zr<|za R R<|zn<|zt<|z1 R R (rI (by have e:=Rm (Us hf3 hjl (Uu (L:=(mlV m.h.m m.h.len)) hy (by omega) (by omega)) (by decide)) (by decide);rw [Ke (by omega) (by omega) (by omega),Fq hf (by omega) (by rw [hca,e];first|assumption|decide),hca,e]))
 refine zi<|zs<|?_
 by_cases q84:(0:Int)<(j:Int)
 have hi1:(j:Int) - 1=((j - 1:Nat):Int):=by omega
 obtain ⟨z,hz⟩:∃z,x.clefs[j - 1]? =some z:=Ax (by omega)
 refine B1 [] (by kernel_rfl) (by kernel_rfl) (by kernel_rfl) (by decide)<|ym R R<|yp (Dz (A4 R R R) (q84))<|ym R R<|yp (Aa R R Ee)<|yp (Ab R R I7 R R)<|ym R R<|yp (Aq R R R Iw (hy))<|yp (Dt R R Hi)<|yp (A7 R R Ai)<|yp (Aa R R Ee)<|yp (Ab R R I7 R R)<|ym R R<|yp (Dd R R R (by omega) (by omega))<|?_
 refine yp (Ip R R R (hi1) Iw (hz))<|yp (Dt R R Hi)<|yp (A7 R R Ai)<|yp (Ku R R R)<|yp (Bl R R (by conv=>lhs;whnf))<|?_
 refine ChK.nil ⟨by kernel_rfl, ?_⟩
 refine zd R (fun c100=> ?_) (fun c100=> ?_)
 exact zr<|za R R<|zn<|zt<|z1 R R (rI (by have e:=Rm (Us hf3 hjl (Akb (L:=(mlV m.h.m m.h.len)) hy hz (by omega) (by omega) (by omega)) (by decide)) (by decide);rw [Ke (by omega) (by omega) (by omega),Fq hf (by omega) (by rw [hca,e];first|assumption|decide),hca,e]))
 refine zi<|Ag (by kernel_rfl)<|zm R R<|zp (Am R R R (by omega) (by omega))<|za R R<|zn<|?_
 exact An (j+1) (⟨by omega,Gs hf3 (Ut hy (by omega) (by omega) (.inr fun z' hz'=>by rw [hz] at hz';cases hz';omega))⟩) (by omega) (fz ⟨sr,sr,sr,sr,sr,trivial⟩) (gz ⟨rfl,rfl,trivial⟩)
 refine B1 [] (by kernel_rfl) (by kernel_rfl) (by kernel_rfl) (by decide)<|ym R R<|yp (Ds (A4 R R R) (q84))<|ym R R<|ChK.skip R<|ChK.skip R<|ChK.skip R<|ChK.skip R<|ChK.skip R<|ChK.skip R<|ChK.skip R<|ChK.skip R<|ChK.skip R<|ChK.skip R<|?_
 refine ChK.skip R<|ChK.skip R<|ChK.skip R<|ChK.skip R<|yp (Bl R R (by conv=>lhs;whnf))<|?_
 refine ChK.nil ⟨by kernel_rfl, ?_⟩
 refine A3 (by kernel_rfl) R<|zi<|Ag (by kernel_rfl)<|zm R R<|zp (Am R R R (by omega) (by omega))<|za R R<|zn<|?_
 exact An (j+1) (⟨by omega,Gs hf3 (Ut hy (by omega) (by omega) (.inl (by omega)))⟩) (by omega) (fz ⟨sr,sr,sr,sr,sr,trivial⟩) (gz ⟨rfl,rfl,trivial⟩)
 have cf:=Atp hf3 (by omega)
 refine Av<|zs<|Ah<|zr<|zp (Aa R R Cs)<|zp (Ab R R Ez R R)<|XL.len R R R Tryz.underlying76 fun hl104=>zp (A4 R R R)<|za R R<|zn<|?_
 refine zd R (fun c101=> ?_) (fun c101=> ?_)
 exact zr<|za R R<|zn<|zt<|z1 R R (rI (by have e:=An3 cf (by omega);rw [Ke (by omega) (by omega) (by omega),Fq hf (by omega) (by rw [hca,e];first|assumption|decide),hca,e]))
 refine zr<|zp (Aa R R Cs)<|zp (Ab R R Ez R R)<|XL.len R R R Tryz.underlying76 fun hl109=>zp (Ba R R R)<|zm R R<|?_
 refine XL.dec 111 R (fun g111=> ?_) (fun g111=> ?_)
 exact zk 7 R<|zq R R R<|za R R<|zn<|Aw (by kernel_rfl) R<|zr<|za R R<|zn<|zt<|z1 R R (rI (by have e:=An2 cf (by omega) (by omega);rw [Ke (by omega) (by omega) (by omega),Fq hf (by omega) (by rw [hca,e];first|assumption|decide),hca,e]))
 refine zp (Aa R R Cs)<|zp (Ab R R Ez R R)<|?_
 obtain ⟨v,hv⟩:∃v,x.voices[0]? =some v:=Ax (by omega)
 refine zp (Aq (k:=0) R R R Kb (hv))<|zp (Dt R R Bp)<|zp (A7 R R C6)<|XL.len R R R Tryz.underlying79 fun hl117=>zp (Ba R R R)<|zq R R R<|za R R<|zn<|?_
 refine zd R (fun c106=> ?_) (fun c106=> ?_)
 exact zr<|za R R<|zn<|zt<|z1 R R (rI (by have e:=An1 cf (by omega) hv (by omega);rw [Ke (by omega) (by omega) (by omega),Fq hf (by omega) (by rw [hca,e];first|assumption|decide),hca,e]))
 refine zi<|zr<|za R R<|zn<|Ah<|?_
 refine Az (α:=Nat) (fun i=>i≤x.voices.length∧∀j,j<i→vAt (mlV m.h.m m.h.len) x.voices j=0) (fun i=>mkF [(2, .ptr 2 0 0),(5, .d (dI (mlV m.h.m m.h.len))),(7, .d (dI k)),(8, .ptr 8 0 0),(11, .d (dI i))]) (fun i=>mkH [(2, .box ((Ms.c m).map S.d)),(8, .box ((Ce.c x).map S.d))]) (fun i=>x.voices.length - i) (0) (⟨Nat.zero_le _,Od⟩) ?_ ?_ ?_
 exact fz ⟨sr,sr,sr,sr,sr,trivial⟩
 exact gz ⟨R,R,trivial⟩
 intro i hk6
 obtain ⟨hi,hf6⟩:=hk6
 refine zs<|zr<|zm R R<|zp (Aa R R Cs)<|zp (Ab R R Ez R R)<|XL.len R R R Tryz.underlying76 fun hl123=>zp (Ap R R R)<|zn<|?_
 refine zd R (fun c124=> ?_) (fun c124=> ?_)
 have hil:i<x.voices.length:=by omega
 obtain ⟨u,hu⟩:=Ax hil
 have hEu:=hEv u (List.mem_of_getElem? hu)
 have hva:=Ty (L:=(mlV m.h.m m.h.len)) hu
 refine zi<|zs<|Ah<|zr<|zp (Aa R R Cs)<|zp (Ab R R Ez R R)<|zm R R<|zp (Aq R R R Kb (hu))<|zp (Dt R R Bp)<|zp (A7 R R C6)<|XL.len R R R Tryz.underlying79 fun hl133=>zp (A4 R R R)<|zn<|?_
 refine zd R (fun c134=> ?_) (fun c134=> ?_)
 refine zr<|zp (Aa R R Cs)<|zp (Ab R R Ez R R)<|zm R R<|zp (Aq R R R Kb (hu))<|zp (Ae (s':= .d (.agg (Vo.c u))) (A8 R R As lb) (by kernel_rfl))<|zm R R<|XL.call1 R R (Ji _ _ (by assumption)) R<|za R R<|znr<|zm R R<|zp (A1 R R R)<|zn<|?_
 refine zd R (fun c143=> ?_) (fun c143=> ?_)
 exact zr<|zm R R<|za R R<|zn<|zt<|z1 R R (rI (by have e:=Auf cf (by omega) hv (by omega) hf6 hu (Nu (by omega)) (by assumption);rw [Ke (by omega) (by omega) (by omega),Fq hf (by omega) (by rw [hca,e];first|assumption|decide),hca,e]))
 refine zi<|Ag (by kernel_rfl)<|zm R R<|zp (Am R R R (by omega) (by omega))<|za R R<|zn<|?_
 exact An (i+1) (⟨by omega,Gs hf6 (by rw [hva,Nu (by omega)];omega)⟩) (by omega) (fz ⟨sr,sr,sr,sr,sr,trivial⟩) (gz ⟨rfl,rfl,trivial⟩)
 refine zi<|Ag (by kernel_rfl)<|zm R R<|zp (Am R R R (by omega) (by omega))<|za R R<|zn<|?_
 exact An (i+1) (⟨by omega,Gs hf6 (by rw [hva,Akv (by omega)])⟩) (by omega) (fz ⟨sr,sr,sr,sr,sr,trivial⟩) (gz ⟨rfl,rfl,trivial⟩)
 refine Av<|Ag (by kernel_rfl)<|zm R R<|zp (Am R R R (by omega) (by omega))<|za R R<|zn<|?_
 exact An (k+1) (⟨by omega,Gs hf (by rw [hca,Atq cf (by omega) hv (by omega) hf6 (by omega)])⟩) (by omega) (fz ⟨sr,sr,sr,trivial⟩) (gz ⟨rfl,trivial⟩)
 exact Av<|zr<|za R R<|zn<|zt<|z1 R R (rI (by rw [Ke (by omega) (by omega) (by omega),Nq (fun j hj=>hf j (by omega))]))
theorem Y6 (m:Ms) (n:Int) (hR:m.room) (hE:m.evs):XC Tryz.prog 13 [.agg (Ms.c m), .v (.int .i64 n)] (fun r=>r=dB true):=by
 have hE2:=Ala hE
 refine Ak Ad5 Tryz.func13 R R lb<|zr<|?_
 refine XL.step R (Ar 2 (l:= [.d (dI m.h.site), .d (dI m.h.num), .d (dI m.h.m.count), .d (dI m.h.m.unit), .d (dI m.h.m.g0), .d (dI m.h.m.g1), .d (dI m.h.m.g2), .d (dI m.h.m.g3), .d (dI m.h.m.g4), .d (dI m.h.m.g5), .d (dI m.h.len), .d (dI m.h.fifths), .d (dB m.h.start), .d (dI m.h.fin), .d (dI m.h.ends), .d (dI m.h.jump), .d (dI m.h.labels), .d (dI m.h.swing), .d (dI m.h.brk), .d (.v (.string ⟨m.h.reh.toArray⟩)), .d (.sl 3 (m.tempi.map Tm.c)), .d (.sl 2 (m.cells.map Ce.c))]) R R (by kernel_rfl))<|?_
 refine za R R<|znr<|zp (Ae (s':= .d (.agg (Ms.c m))) (Ac (Ad R R Cb R lb)) (by kernel_rfl))<|XL.call1 R R (Ak7 _ (by assumption)) R<|?_
 refine XL.step R (Af (l':= [.d (dI (Ew m).h.site), .d (dI (Ew m).h.num), .d (dI (Ew m).h.m.count), .d (dI (Ew m).h.m.unit), .d (dI (Ew m).h.m.g0), .d (dI (Ew m).h.m.g1), .d (dI (Ew m).h.m.g2), .d (dI (Ew m).h.m.g3), .d (dI (Ew m).h.m.g4), .d (dI (Ew m).h.m.g5), .d (dI (Ew m).h.len), .d (dI (Ew m).h.fifths), .d (dB (Ew m).h.start), .d (dI (Ew m).h.fin), .d (dI (Ew m).h.ends), .d (dI (Ew m).h.jump), .d (dI (Ew m).h.labels), .d (dI (Ew m).h.swing), .d (dI (Ew m).h.brk), .d (.v (.string ⟨(Ew m).h.reh.toArray⟩)), .d (.sl 3 ((Ew m).tempi.map Tm.c)), .d (.sl 2 ((Ew m).cells.map Ce.c))]) R R R R Gt R lb (by kernel_rfl))<|?_
 refine zn<|zs<|B1 [] (by kernel_rfl) (by kernel_rfl) (by kernel_rfl) (by decide)<|ChK.cons R (CStep.call R (Al7) R)<|ym R R<|yp (Ae (s':= .d (.agg (Ms.c (Ew m)))) (Ac (Ad R R Cb R lb)) (by kernel_rfl))<|ym R R<|ChK.cons R (CStep.call R (Apc _ _ (by assumption)) R)<|?_
 refine yp (Ae (s':= .d (.agg (Ms.c (Ew m)))) (Ac (Ad R R Cb R lb)) (by kernel_rfl))<|ym R R<|ChK.cons R (CStep.call R (Ai6 _ _ (by assumption)) R)<|yp (Dz (Ba R R R) (R))<|yp (Bl R R (by conv=>lhs;whnf))<|?_
 refine ya R R<|?_
 refine ChK.nil ⟨by kernel_rfl, ?_⟩
 exact zt<|z1 R R (R)
end Go.Proofs.YtaafemnkamfgnaaGreat
