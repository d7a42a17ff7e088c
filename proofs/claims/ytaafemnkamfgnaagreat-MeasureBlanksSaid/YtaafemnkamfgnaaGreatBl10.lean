/- Part 10 of what the statements need: lemmas and walks. -/
import Derived.Lib.OwnBridge
import Derived.Test.YtaafemnkamfgnaaGreatBl9
set_option linter.unusedVariables false
set_option linter.unusedSimpArgs false
set_option linter.unusedSectionVars false
set_option maxRecDepth 20000
set_option maxHeartbeats 8000000
namespace Go.Proofs.YtaafemnkamfgnaaGreat
open Go.RowKit
open Go.Sort in
theorem Aj5 {zs:List Int} {c:Array Value} (h:zs.length≤c.size):(putCells (Value.int .i64) 0 zs.toArray c).toList.take zs.length=zs.map (Value.int .i64):=by
 apply List.ext_getElem?
 intro k
 rw [List.getElem?_take,List.getElem?_map]
 by_cases hk:k<zs.length
 ·rw [if_pos hk,Array.getElem?_toList,putCells,Array.getElem?_mapIdx,Array.getElem?_eq_getElem (by omega),Option.map_some,if_pos ⟨by omega,by simpa using hk⟩,List.getElem?_eq_getElem hk,Option.map_some]
  congr 2
  rw [Nat.sub_zero,getElem!_pos _ k (by simpa using hk)]
  simp
 ·rw [if_neg hk,List.getElem?_eq_none (by omega)];rfl
abbrev ixs (zs:List Int):List (List D):=zs.map iv
theorem Aeh {E:Env} {H:Hp} {β:Bt} {h:Xh} {w:World} {i:Nat} {zs:List Int} {L:Loc} (hs:Sim E H β h w) (hi:h i=some (.row 3 1 (ixs zs))) (hL:β i=some L):
  (L.v= .slice none 0 0∧zs= [])∨∃cap cur,L.v= .slice (some ⟨L.b,0,none⟩) zs.length cap∧L.sz=1∧E.w.heap.size≤L.b∧w.heap[L.b]? =some (.cells cur 3 (0,0))∧zs.length≤cap∧cap≤maxLen∧cur.size=cap∧cur.toList.take zs.length=zs.map (Value.int .i64):=by
 obtain ⟨hsz,hz,hvb,us,hown,hone,hcells⟩:=hs.obj i _ L hi hL
 have hn:(ixs zs).length=zs.length:=by simp [ixs]
 rw [hn] at hown
 rcases hown.2 with ⟨e1,e2⟩|⟨g,cap,cur,e1,e2,e3,e4,e5,e6,e7⟩
 ·exact .inl ⟨e1,List.length_eq_zero_iff.1 e2⟩
 ·have hg:=hvb g (by rw [e1];rfl)
  subst hg
  rw [Nat.mul_one] at e6 e7
  refine .inr ⟨cap,cur,e1,hsz,e2,e3,e4,e5,e6, ?_⟩
  rw [e7]
  have hl:us.length=zs.length:=by rw [hown.1,Nat.mul_one]
  apply List.ext_getElem?
  intro k
  by_cases hk:k<zs.length
  ·obtain ⟨u,h1,h2⟩:=hcells k 0 [dI zs[k]] (dI zs[k]) (by simp [ixs,hk];rfl) rfl
   rw [Nat.mul_one,Nat.add_zero] at h1
   rw [h1,Pa h2]
   simp [hk]
  ·rw [List.getElem?_eq_none (by omega),List.getElem?_eq_none (by simp;omega)]
open Go.Sort in
theorem Sim.putI {E:Env} {H:Hp} {β:Bt} {h:Xh} {w:World} {i q:Nat} {zs ys:List Int} {L:Loc} {cap:Nat} {cur:Array Value} (hs:Sim E H β h w) (hi:h i=some (.row 3 1 (ixs zs))) (hL:β i=some L)
  (hv:L.v= .slice (some ⟨L.b,0,none⟩) zs.length cap) (hb:E.w.heap.size≤L.b) (hc:w.heap[L.b]? =some (.cells cur 3 (0,0))) (hn:zs.length≤cap) (hm:cap≤maxLen) (hz:cur.size=cap) (hl:ys.length=zs.length):
  Sim E H β (h.set i (.row 3 1 (ixs ys))) (putRow (Value.int .i64) (Sort.ahead w q) L.b 0 ys.toArray):=by
 obtain ⟨hsz,_,hvb,_⟩:=hs.obj i _ L hi hL
 have s2:Sim E H β h (Sort.ahead w q):=hs.call ⟨rfl,rfl,rfl,Nat.le_refl _,fun _ _=>rfl⟩ (Hp.le.refl _) (fun b o u e=> .inl e) hs.imm
 have hcell:(putRow (Value.int .i64) (Sort.ahead w q) L.b 0 ys.toArray).heap[L.b]? =some (.cells (putCells (Value.int .i64) 0 ys.toArray cur) 3 (0,0)):=by
  show (w.heap.modify L.b _)[L.b]? =_
  rw [Array.getElem?_modify,if_pos rfl,hc];rfl
 have hcs:(putCells (Value.int .i64) 0 ys.toArray cur).size=cap:=by simp [putCells,hz]
 refine s2.turn hi hL rfl (Go.Lib.below_putRow hs.below hb) (fun b hb'=> ?_) ?_
 ·show (w.heap.modify L.b _)[b]? =w.heap[b]?
  rw [Array.getElem?_modify,if_neg]
  intro e
  exact hb' (by simp [XO.blk,hv,Value.ownBlock,e])
 ·have hlen:(ixs ys).length=zs.length:=by simp [ixs,hl]
  refine ⟨hsz,fun x hx=> ?_,hvb,ys.map (Value.int .i64),⟨by simp [ixs], .inr ⟨L.b,cap,_,by rw [hlen];exact hv,hb,hcell,by rw [hlen];exact hn,hm,by rw [Nat.mul_one];exact hcs, ?_⟩⟩,fun u hu=> ?_,fun k j x d hk hj=> ?_⟩
  ·obtain ⟨z,_,rfl⟩:=List.mem_map.1 hx;rfl
  ·rw [show (ixs ys).length*1=ys.length by simp [ixs]]
   exact Aj5 (by omega)
  ·obtain ⟨z,_,rfl⟩:=List.mem_map.1 hu;rfl
  ·rw [ixs,List.getElem?_map] at hk
   cases hy:ys[k]? with
   |none=>rw [hy] at hk;cases hk
   |some z=>
    rw [hy] at hk;cases hk
    match j with
    |0=>cases hj;exact ⟨.int .i64 z,by rw [Nat.mul_one,Nat.add_zero,List.getElem?_map,hy];rfl, .v _⟩
    |j+1=>simp [iv] at hj
open Go.Sort in
theorem Sim.grow {E:Env} {H:Hp} {β:Bt} {h:Xh} {w:World} (hs:Sim E H β h w) (os:Array Obj):Sim E H β h (Go.Sort.grow w os):=by
 have hb:Below w.heap.size w (Go.Sort.grow w os):=⟨rfl,rfl,rfl,by simp,fun k hk=>by simp only [Go.Sort.grow];rw [Array.getElem?_append_left hk]⟩
 exact hs.call hb (Hp.le.refl _) (fun b o u e=> .inl e) (hs.imm.below hb)
theorem Wd {w:World} {b:Nat} {cur:Array Value} {zs:List Int} (hc:w.heap[b]? =some (.cells cur 3 (0,0))) (ht:cur.toList.take zs.length=zs.map (Value.int .i64)):Go.Sort.Holds (Value.int .i64) w b 0 zs.toArray:=fun j hj=>by
 have hj':j<zs.length:=by simpa using hj
 have:cur[j]? =some (.int .i64 zs[j]):=by
  have h1:(cur.toList.take zs.length)[j]? =some (.int .i64 zs[j]):=by rw [ht];simp [hj']
  rw [List.getElem?_take,if_pos hj'] at h1
  simpa using h1
 refine ⟨?_,by simp [World.frozen?,hc]⟩
 simp [World.cell?,hc,this,hj']
def srt (zs:List Int):List Int:=zs.mergeSort fun x y=>decide (x≤y)
theorem Ad2 (zs:List Int):(srt zs).length=zs.length:=List.length_mergeSort _
theorem Ad1:srt []= []:=by simp [srt]
section
variable {n:Nat} {f:Fr} {h:Xh} {o:Oper} {ops rest:List Oper} {K:C0} {tys:Array TypeId}
theorem Aos {i:Nat} {x:Operand} {zs:List Int} (ho:o.op= .call {callee:= .value (.func 58),args:= #[x],argTypes:=tys}) (hx:ev f x= .own i) (hi:h i=some (.row 3 1 (ixs zs))) (hlen:zs.length<4611686018427387904):
  Step Tryz.prog n o f h .any f (h.set i (.row 3 1 (ixs (srt zs)))):=by
 intro E H β a w hs hfv hop
 have g:=hop x (by rw [ho];simp [Op.operands,Call.operands])
 rw [hx] at g
 obtain ⟨L,hL,hv⟩:=Fx g
 have fin:∀w',Sim E H β (h.set i (.row 3 1 (ixs (srt zs)))) w'→∃H' β' u,a.put o.dst (.tuple #[])=a.put o.dst u∧Sim E H' β' (h.set i (.row 3 1 (ixs (srt zs)))) w'∧FV n H' β' a f∧VS H' β' u .any:=fun w' k=>⟨H,β,_,rfl,k,hfv, .any _⟩
 unfold Oper.wp
 rw [Mw ho Ada,show (#[x]:Array Operand).map a.eval= #[a.eval x] by simp]
 rw [hv]
 rcases Aeh hs hi hL with ⟨e1,rfl⟩|⟨cap,cur,e1,_,e2,e3,e4,e5,e6,e7⟩
 ·rw [e1]
  refine (Tryz.slices_Sort_int_none none 0 w).mono ?_
  rintro e w' ⟨rfl,rfl⟩
  exact fin _ (by rw [Ad1,Xh.set_self hi];exact hs)
 ·rw [e1]
  refine (Tryz.slices_Sort_int L.b 0 cap zs w (Wd e3 e7) (Array.getElem?_eq_some_iff.1 e3).1 hlen).mono ?_
  rintro e w' ⟨rfl,q,os,rfl⟩
  exact fin _ ((hs.putI hi hL e1 e2 e3 e4 e5 e6 (Ad2 zs)).grow os)
theorem Ww {h:Xh} {i:Nat} {o o2:XO}:((h.set i o).kill i).set i o2=(h.kill i).set i o2:=by
 funext j
 by_cases e:i=j
 ·subst e;rw [Xh.set_same,Xh.set_same]
 ·rw [Xh.set_ne _ _ e,Xh.set_ne _ _ e,Xh.kill_ne _ e,Xh.kill_ne _ e,Xh.set_ne _ _ e]
def cpt (zs:List Int):List Int:=Go.Lib.compact zs
theorem Aew (zs:List Int):(cpt zs).length≤zs.length:=Go.Lib.compact_length_le zs
theorem Aev:cpt []= []:=by have:=Aew [];exact List.length_eq_zero_iff.1 (by simpa using this)
theorem Sim.cutR {E:Env} {H:Hp} {β:Bt} {h:Xh} {w:World} {i m c:Nat} {ty:TypeId} {sz:Nat} {r:List (List D)} {L:Loc} {A:Option Addr} (hs:Sim E H β h w) (hi:h i=some (.row ty sz r)) (hL:β i=some L) (hv:L.v= .slice A r.length c) (hm:m≤r.length):
  Sim E H (β.set i (some ⟨.slice A m c,L.b,sz,noB⟩)) ((h.kill i).set i (.row ty sz (r.take m))) w:=by
 obtain ⟨h1,hz,hvb,us,hown,hone,hc⟩:=hs.obj i _ L hi hL
 have hn2:(r.take m).length=m:=by rw [List.length_take];omega
 have hblk:(Value.slice A m c).ownBlock=L.v.ownBlock:=by rw [hv];cases A<;>rfl
 have hmul:m*sz≤r.length*sz:=Nat.mul_le_mul_right _ hm
 refine hs.lay i _ _ (fun b hb=>⟨_,L,hi,hL, ?_⟩) ⟨rfl,fun x hx=>hz x (List.mem_of_mem_take hx),fun b hb=>hvb b (by rw [←hblk];exact hb),us.take (m*sz),⟨?_, ?_⟩,fun u hu=>hone u (List.mem_of_mem_take hu),fun k j x d hk hj=> ?_⟩
 ·simp only [XO.blk] at hb ⊢
  rw [←hblk];exact hb
 ·rw [hn2,List.length_take,hown.1];omega
 ·rw [hn2]
  rcases hown.2 with ⟨e1,e2⟩|⟨g,cap,cur,e1,e2,e3,e4,e5,e6,e7⟩
  ·rw [hv] at e1
   injection e1 with q1 q2 q3
   subst q1 q3
   have:m=0:=by omega
   subst this
   exact .inl ⟨rfl,rfl⟩
  ·rw [hv] at e1
   injection e1 with q1 q2 q3
   subst q1 q3
   refine .inr ⟨g,c,cur,rfl,e2,e3,by omega,e5,e6, ?_⟩
   rw [←e7,List.take_take,Nat.min_eq_left hmul]
 ·have hkm:k<m:=by have:=(List.getElem?_eq_some_iff.1 hk).1;rw [List.length_take] at this;omega
  rw [List.getElem?_take,if_pos hkm] at hk
  obtain ⟨u,h5,h6⟩:=hc k j x d hk hj
  have hjs:j<sz:=by have:=(List.getElem?_eq_some_iff.1 hj).1;rw [hz x (List.mem_of_getElem? hk)] at this;exact this
  have h7:(k+1)*sz≤m*sz:=Nat.mul_le_mul_right _ hkm
  rw [Nat.add_mul] at h7
  exact ⟨u,by rw [List.getElem?_take,if_pos (by omega)];exact h5,h6⟩
theorem Sim.cutI {E:Env} {H:Hp} {β:Bt} {h:Xh} {w:World} {i m c:Nat} {zs:List Int} {L:Loc} {A:Option Addr} (hs:Sim E H β h w) (hi:h i=some (.row 3 1 (ixs zs))) (hL:β i=some L) (hv:L.v= .slice A zs.length c) (hm:m≤zs.length):
  Sim E H (β.set i (some ⟨.slice A m c,L.b,1,noB⟩)) ((h.kill i).set i (.row 3 1 (ixs (zs.take m)))) w:=by
 have:=hs.cutR hi hL (by rw [List.length_map];exact hv) (by rw [List.length_map];exact hm)
 rw [←List.map_take] at this
 exact this
theorem Afj {i:Nat} {x:Operand} {zs:List Int} (ho:o.op= .call {callee:= .value (.func 59),args:= #[x],argTypes:=tys}) (hx:ev f x= .own i) (hi:h i=some (.row 3 1 (ixs zs))) (hlen:zs.length≤9223372036854775807):
  Step Tryz.prog n o f h (.own i) (Em f i) ((h.kill i).set i (.row 3 1 (ixs (cpt zs)))):=by
 intro E H β a w hs hfv hop
 have g:=hop x (by rw [ho];simp [Op.operands,Call.operands])
 rw [hx] at g
 obtain ⟨L,hL,hv⟩:=Fx g
 unfold Oper.wp
 rw [Mw ho Ac9,show (#[x]:Array Operand).map a.eval= #[a.eval x] by simp]
 rw [hv]
 rcases Aeh hs hi hL with ⟨e1,rfl⟩|⟨cap,cur,e1,_,e2,e3,e4,e5,e6,e7⟩
 ·rw [e1]
  refine (Tryz.slices_Compact_int_empty none 0 w).mono ?_
  rintro e w' ⟨rfl,rfl⟩
  have:=hs.cutI hi hL e1 (Nat.le_refl _)
  rw [Aev]
  exact ⟨H,_,_,rfl,this,hfv.kill i _,VS.own (Bt.set_same _ _ _)⟩
 ·rw [e1]
  refine (Tryz.slices_Compact_int L.b 0 cap zs w (Wd e3 e7) hlen e4).mono ?_
  rintro e w' ⟨rfl,q,rfl⟩
  have hl:=Aew zs
  have hl2:(Go.Lib.compact zs++List.replicate (zs.length - (Go.Lib.compact zs).length) 0).length=zs.length:=by unfold cpt at hl;simp;omega
  have k:=(hs.putI (q:=q) hi hL e1 e2 e3 e4 e5 e6 hl2).cutI (m:=(cpt zs).length) (Xh.set_same _ _ _) hL (by rw [hl2];exact e1) (by rw [hl2];exact hl)
  rw [Ww,cpt,List.take_left] at k
  exact ⟨H,_,_,rfl,k,hfv.kill i _,VS.own (Bt.set_same _ _ _)⟩
end
def Zg (m:Ms):List Int:=cpt (srt ((slL m).map (·.on)))
theorem As0 {m:Ms} (h:slE m≠0):Zg m= []:=by rw [Zg,slL,if_pos h];simp [Ad1,Aev]
theorem r2i {l l':List Int} {a b:Int} (h:l=l') (h2:a=b):D.tup [.sl 1 (l.map iv),dI a]= .tup [.sl 1 (l'.map iv),dI b]:=by rw [h,h2]
theorem Aou {m:Ms} (hF:m.fit):(slL m).length≤3000000000:=by
 unfold slL
 split
 ·exact Nat.zero_le _
 ·have:=Zf (L:=mlV m.h.m m.h.len) (l:=m.cells) (fun c hc=>(hF.c c hc).voices)
  have:=hF.cells
  omega
theorem Agp (m:Ms) (hF:m.fit) (hE:m.evs):XC Tryz.prog 21 [.agg (Ms.c m)] (fun r=>r= .tup [.sl 1 ((Zg m).map iv),dI (slE m)]):=by
 have hsl:=Aou hF
 refine Aj Ado Tryz.func21 R R lb<|zr<|?_
 refine XL.step R (Aq 1 (l:= [.d (dI m.h.site), .d (dI m.h.num), .d (dI m.h.m.count), .d (dI m.h.m.unit), .d (dI m.h.m.g0), .d (dI m.h.m.g1), .d (dI m.h.m.g2), .d (dI m.h.m.g3), .d (dI m.h.m.g4), .d (dI m.h.m.g5), .d (dI m.h.len), .d (dI m.h.fifths), .d (dB m.h.start), .d (dI m.h.fin), .d (dI m.h.ends), .d (dI m.h.jump), .d (dI m.h.labels), .d (dI m.h.swing), .d (dI m.h.brk), .d (.v (.string ⟨m.h.reh.toArray⟩)), .d (.sl 3 (m.tempi.map Tm.c)), .d (.sl 2 (m.cells.map Ce.c))]) R R (by kernel_rfl))<|?_
 refine za R R<|za R R<|znr<|zp (Ae (s':= .d (.agg (Ms.c m))) (Aa (Ad R R A1 R lb)) (by kernel_rfl))<|XL.call1 R R (Xu _ (by assumption) (by assumption)) R<|zm R R<|zp (An R R R)<|zp (An R R R)<|za R R<|za R R<|zn<|zs<|zr<|zm R R<|?_
 refine zp (As R R R)<|zn<|?_
 refine zd R (fun c15=> ?_) (fun c15=> ?_)
 refine zr<|zm R R<|za R R<|za R R<|zn<|zt<|?_
 exact Az R (RV.nil (sz:=1) R R) (RV.tmp R R) (r2i (As0 (by assumption)).symm R)
 refine zi<|zr<|za R R<|zn<|zs<|zr<|zm R R<|XL.len R R R Tryz.underlying42 fun hl18=>zm R R<|zn<|Ah<|Ep 7801 6 3 1 R<|?_
 refine A6 (α:=Nat) (fun k=>k≤(slL m).length) (fun k=>mkF [(2, .d (.v (.slice none 0 0))),(3, .d (dI 0)),(6, .own 7801),(17, .d (.sl 5 ((slL m).map Slt.c))),(18, .d (dI (slL m).length)),(19, .d (dI k))]) (fun k=>mkH [(7801, .row 3 1 ((((slL m).take k).map (·.on)).map iv))]) (fun k=>(slL m).length - k) (0) (Nat.zero_le _) ?_ ?_ ?_
 exact fz ⟨sr,sr,sr,sr,sr,sr,trivial⟩
 exact gz ⟨R,trivial⟩
 intro k hk0
 refine zr<|zp (Ar R R R)<|zn<|zs<|?_
 refine zd R (fun c20=> ?_) (fun c20=> ?_)
 have hk0a:k<(slL m).length:=by omega
 obtain ⟨x0,hx0⟩:=A3 hk0a
 refine zi<|zs<|Ah<|zr<|zp (At R R R Anv hx0)<|zp (Ae (s':= .d (.agg (Slt.c x0))) (A9 R R Aka lb) (by kernel_rfl))<|XL.step R (Al 8 (l:= [.d (dI 0), .d (dI 0), .d (dI 0), .d (dI 0), .d (dI 0)]) R Lw (by kernel_rfl))<|?_
 refine XL.step R (Ag (l':= [.d (dI x0.staff), .d (dI x0.voice), .d (dI x0.ev), .d (dI x0.on), .d (dI x0.off)]) R R R R Afh R lb (by kernel_rfl))<|zng<|zp (Aw R (by conv=>lhs;whnf))<|?_
 refine zp (Ac R R Al4)<|zp (Ab R R Ai R R)<|XL.step R (Bq 26 R Tryz.underlying45 Dv Hn R R (by omega) (by omega))<|XL.step R (Bg R P9 (.own R) (Src.own R) (by unfold maxLen;simp;omega) (by simp;omega))<|zp (Ay R (by conv=>lhs;whnf))<|?_
 refine zn<|Af (by kernel_rfl)<|zp (Am R R R (by omega) (by omega))<|zm R R<|zn<|?_
 exact Ap (k+1) (by omega) (by omega) (fz ⟨sr,sr,sr,sr,sr,sr,trivial⟩) (gz ⟨H6 (a:=x0.on) R (by rw [B1 hx0,List.map_append];rfl),trivial⟩)
 have hk0b:k=(slL m).length:=by omega
 refine A0<|zr<|zp (Aw R (by conv=>lhs;whnf))<|?_
 refine XL.step R (Aos (zs:=((slL m).take k).map (·.on)) R R R (by rw [List.length_map,List.length_take];omega))<|znr<|zp (Aw R (by conv=>lhs;whnf))<|?_
 refine XL.step R (Afj (zs:=srt (((slL m).take k).map (·.on))) R R R (by rw [Ad2,List.length_map,List.length_take];omega))<|zp (Ay R (by conv=>lhs;whnf))<|?_
 refine za R R<|zn<|zt<|B6 (i:=7801) R<|?_
 exact Az R (RV.tmp R R) (RV.tmp R R) (r2i (by rw [hk0b,List.take_length];rfl) (by omega))
end Go.Proofs.YtaafemnkamfgnaaGreat
namespace Go.Proofs.YtaafemnkamfgnaaGreat
open Go.RowKit
inductive C3 where
 |bf|fr|af|fl|ff|mu|st
 deriving DecidableEq
def OpF (P:Program) (n:Nat) (ops:Array Oper) (o:Oper) (f:Fr) (h1:Xh) (s:S):Prop:=
 (Bo ops f n o.guard=some true∧Agz P o (ev f) h1 [] s)∨(Bo ops f n o.guard=some false∧s= .d (.v undef))
structure FOK (P:Program) (n:Nat) (ops:Array Oper) (κ:S→S) (hA hB hC:Xh) (o:Oper) (fA fB:Fr) (c:C3) (sA sB:S):Prop where
 a:(c= .bf∨c= .fr∨c= .ff)→OpF P n ops o fA hA sA∧sB=κ sA
 b:(c= .af∨c= .fr∨c= .fl∨c= .ff)→OpF P n ops o fB hB sB
 l:(c= .fl∨c= .ff)→OpF P n ops o fB hC sB
 m:c= .mu→Bo ops fA n o.guard=some true∧Kz P n o fA hA 987654 sB κ hB
 s:c= .st→Bo ops fB n o.guard=some true∧Kz P n o fB hB 987654 sB id hC
inductive ChF (P:Program) (n:Nat) (ops:Array Oper) (κ:S→S) (hA hB hC:Xh):List Oper→Fr→Fr→List C3→List S→List S→Fr→Prop where
 |nil (fA fB:Fr):ChF P n ops κ hA hB hC [] fA fB [] [] [] fB
 |step {o:Oper} {rest:List Oper} {fA fB f':Fr} {c:C3} {sA sB:S} {C:List C3} {LA LB:List S} (hok:FOK P n ops κ hA hB hC o fA fB c sA sB) (hr:ChF P n ops κ hA hB hC rest (Bf fA o.dst sA) (Bf fB o.dst sB) C LA LB f'):
   ChF P n ops κ hA hB hC (o::rest) fA fB (c::C) (sA::LA) (sB::LB) f'
def noI (L:List S):List (List Nat × S):=L.map fun s=>([],s)
theorem Qu {L:List S} {k:Nat} {s:S} (h:L[k]? =some s):(noI L)[k]? =some ([],s):=by rw [noI,List.getElem?_map,h];rfl
theorem Aii {L:List S} {k:Nat} {q:List Nat × S} (h:(noI L)[k]? =some q):L[k]? =some q.2∧q.1= []:=by
 rw [noI,List.getElem?_map] at h
 cases hl:L[k]? with
 |none=>rw [hl] at h;cases h
 |some s=>rw [hl] at h;cases h;exact ⟨rfl,rfl⟩
theorem ChF.ok {P:Program} {n:Nat} {ops:Array Oper} {κ:S→S} {hA hB hC:Xh} {l:List Oper} {fA fB f':Fr} {C:List C3} {LA LB:List S} (hc:ChF P n ops κ hA hB hC l fA fB C LA LB f'):
  C.length=l.length∧LA.length=l.length∧LB.length=l.length∧
  (∀k o c sA sB,l[k]? =some o→C[k]? =some c→LA[k]? =some sA→LB[k]? =some sB→FOK P n ops κ hA hB hC o (Ba fA l (noI LA) Du k) (Ba fB l (noI LB) Du k) c sA sB)∧Ba fB l (noI LB) Du l.length=f':=by
 induction hc with
 |nil=>exact ⟨rfl,rfl,rfl,fun k o c qa qb e=>by simp at e,rfl⟩
 | @step o rest fA fB f' c sA sB C LA LB hok hr ih=>
  obtain ⟨i1,i2,i3,i4,i5⟩:=ih
  refine ⟨by simp [i1],by simp [i2],by simp [i3],fun k o' c' qa qb h1 h2 h3 h4=> ?_, ?_⟩
  ·cases k with
   |zero=>simp at h1 h2 h3 h4;subst h1 h2 h3 h4;exact hok
   |succ k=>
    have e1:noI (sA::LA)=([],sA)::noI LA:=rfl
    have e2:noI (sB::LB)=([],sB)::noI LB:=rfl
    rw [e1,e2,Fn,Fn];exact i4 k o' c' qa qb (by simpa using h1) (by simpa using h2) (by simpa using h3) (by simpa using h4)
  ·have e2:noI (sB::LB)=([],sB)::noI LB:=rfl
   rw [e2,List.length_cons,Fn];exact i5
def Agq (ops:Array Oper) (p p2:Nat) (C:List C3):Bool:=
 (List.range C.length).all fun k=>
  match C[k]? with
  |some .bf=>C9 ops 9 p k && C9 ops 9 p2 k
  |some .af=>C9 ops 9 k p && C9 ops 9 p2 k
  |some .fl=>C9 ops 9 k p
  |some .mu=>Nat.beq k p && C9 ops 9 p2 k
  |some .st=>Nat.beq k p2 && C9 ops 9 k p
  |some .fr=>C9 ops 9 p2 k
  |some .ff=>true
  |none=>true
section
variable (P:Program) (n:Nat) (ops:Array Oper) (pre:List Oper) (p p2:Nat) (fA fB:Fr) (hA hB hC:Xh) (LA LB:List S) (E:Env)
def Anb (listed:Array Bool) (a:Act) (w:World):Prop:=
 (listed.size=ops.size∧(∀j o e,ops[j]? =some o→listed.getD j false=true→e∈o.after→Region.binds .any e=true→listed.getD e.on false=true)∧∀k,pre.length≤k→listed.getD k false=false)∧
  ((listed.getD p false = false ∧ listed.getD p2 false = false ∧ ∃ H β, Sim E H β hA w ∧ FV n H β a (Ba fA pre (noI LA) (fun j => listed.getD j false) pre.length)) ∨
   (listed.getD p false=true∧listed.getD p2 false=false∧∃H β,Sim E H β hB w∧FV n H β a (Ba fB pre (noI LB) (fun j=>listed.getD j false) pre.length))∨
   (listed.getD p2 false = true ∧ ∃ H β, Sim E H β hC w ∧ FV n H β a (Ba fB pre (noI LB) (fun j => listed.getD j false) pre.length)))
end
theorem Ai8 {P:Program} {n:Nat} {ops:Array Oper} {pre:List Oper} {p p2:Nat} {fA fB:Fr} {hA hB hC:Xh} {LA LB:List S} {E:Env} {Q:Exit→Act→World→Prop} {κ:S→S} {C:List C3}
  (hops:∀j,j<pre.length→ops[j]? =pre[j]?) (hin:pre.all (inN n)=true) (hreg:Jd ops pre=true) (hf:∀t,fB t=κ (fA t)) (hCl:C.length=pre.length) (hAl:LA.length=pre.length) (hBl:LB.length=pre.length)
  (hok:∀k o c sA sB,pre[k]? =some o→C[k]? =some c→LA[k]? =some sA→LB[k]? =some sB→FOK P n ops κ hA hB hC o (Ba fA pre (noI LA) Du k) (Ba fB pre (noI LB) Du k) c sA sB)
  (hp:C[p]? =some .mu) (hp2:C[p2]? =some .st) (hcls:Agq ops p p2 C=true) {listed:Array Bool} {a:Act} {w:World} (hI:Anb n ops pre p p2 fA fB hA hB hC LA LB E listed a w) {i:Nat} (hi:i∈Region.ready .any ops listed) (hip0:i<pre.length):
  wpOp P ops Q i (fun a' w'=>Anb n ops pre p p2 fA fB hA hB hC LA LB E (listed.setIfInBounds i true) a' w') a w:=by
 obtain ⟨⟨hsz,hdown,hunp⟩,hcase⟩:=hI
 have hcl:∀k c,C[k]? =some c→match c with|C3.bf=>C9 ops 9 p k=true∧C9 ops 9 p2 k=true|C3.af=>C9 ops 9 k p=true∧C9 ops 9 p2 k=true|C3.fl=>C9 ops 9 k p=true|C3.mu=>k=p∧C9 ops 9 p2 k=true|C3.st=>k=p2∧C9 ops 9 k p=true|C3.ff=>True|C3.fr=>C9 ops 9 p2 k=true:=by
  intro k c hck
  unfold Agq at hcls
  have:=List.all_eq_true.1 hcls k (List.mem_range.2 (List.getElem?_eq_some_iff.1 hck).1)
  rw [hck] at this
  cases c with
  |mu=>simp only [Bool.and_eq_true] at this;exact ⟨Nat.eq_of_beq_eq_true this.1,this.2⟩
  |st=>simp only [Bool.and_eq_true] at this;exact ⟨Nat.eq_of_beq_eq_true this.1,this.2⟩
  |fr=>exact this
  |ff=>trivial
  |fl=>exact this
  |bf=>simpa [Bool.and_eq_true] using this
  |af=>simpa [Bool.and_eq_true] using this
 obtain ⟨hil,hunl,o,ho,hdeps⟩:=Fi hi
 have hil':i<pre.length:=hip0
 have hol:pre[i]? =some o:=by rw [←hops i hip0];exact ho
 obtain ⟨sA,hLA⟩:∃q,LA[i]? =some q:=⟨_,List.getElem?_eq_getElem (by omega)⟩
 obtain ⟨sB,hLB⟩:∃q,LB[i]? =some q:=⟨_,List.getElem?_eq_getElem (by omega)⟩
 obtain ⟨c,hC'⟩:∃q,C[i]? =some q:=⟨_,List.getElem?_eq_getElem (by omega)⟩
 have hunl':listed.getD i false=false:=by rw [←G9 true (by omega)];exact hunl
 have hdown':∀j o e,ops[j]? =some o→(fun j=>listed.getD j false) j=true→e∈o.after→Region.binds .any e=true→(fun j=>listed.getD j false) e.on=true:=fun j o e h1 h2 h3 h4=>hdown j o e (by simpa using h1) h2 h3 h4
 have hwl:∀d j,C9 ops (d+1) i j=true→listed.getD j false=true:=by
  intro d j hw
  unfold C9 at hw
  rw [ho] at hw
  simp only [List.any_eq_true,Bool.and_eq_true,Bool.or_eq_true] at hw
  obtain ⟨e,he,hb,h2⟩:=hw
  have hl:=hdeps e (by simpa using he) hb
  rcases h2 with h2|h2
  ·rw [←Nat.eq_of_beq_eq_true h2];exact hl
  ·exact Cy hdown' d e.on j h2 hl
 have hlo:∀t,t∈B4 ops o→∀j o',j<i→pre[j]? =some o'→o'.dst=some t→listed.getD j false=true:=by
  intro t ht j o' hj hj' hd
  exact hwl 2 j (G8 hreg hj hj' hol (by unfold Kw;rw [hd];simp [Hj ht]))
 have hhi:∀t,t∈B4 ops o→∀j o',i<j→pre[j]? =some o'→o'.dst=some t→listed.getD j false=false:=by
  intro t ht j o' hj hj' hd
  cases hlj:listed.getD j false with
  |false=>rfl
  |true=>
   have hw:=G8 hreg hj hol hj' (by unfold Kw;rw [hd];simp [Hj ht])
   have:=Cy hdown' 3 j i hw hlj
   rw [hunl'] at this;cases this
 have hcur:∀(f0:Fr) (L:List (List Nat × S)) t,t∈B4 ops o→Ba f0 pre L (fun j=>listed.getD j false) pre.length t=Ba f0 pre L Du i t:=by
  intro f0 L t ht
  have h1:∀j o',i≤j→pre[j]? =some o'→o'.dst=some t→(fun j=>listed.getD j false) j=false:=by
   intro j o' hj hj' hd
   by_cases e:j=i
   ·subst e;exact hunl'
   ·exact hhi t ht j o' (by omega) hj' hd
  rw [Gq h1 pre.length (by omega),K8 (hlo t ht) i (Nat.le_refl _)]
 have hin':inN n o=true:=List.all_eq_true.1 hin o (List.mem_of_getElem? hol)
 have hoin:=hin'
 unfold inN at hoin
 rw [Bool.and_eq_true] at hoin
 have hopn:∀t,Operand.tmp t∈o.op.operands→t∈B4 ops o:=by
  intro t hx
  unfold B4 Oper.looksAt
  simp only [List.mem_append,List.mem_filterMap]
  exact .inr (.inl ⟨.tmp t,by simpa using hx,rfl⟩)
 have hev:∀(f0:Fr) (L:List (List Nat × S)),∀x∈o.op.operands,ev (Ba f0 pre L (fun j=>listed.getD j false) pre.length) x=ev (Ba f0 pre L Du i) x:=by
  intro f0 L x hx
  cases x with
  |tmp t=>simp only [ev];exact hcur f0 L t (hopn t hx)
  |_=>rfl
 have hop:∀(f0:Fr) (L:List (List Nat × S)) (H:Hp) (β:Bt),FV n H β a (Ba f0 pre L (fun j=>listed.getD j false) pre.length)→∀x∈o.op.operands,VS H β (a.eval x) (ev (Ba f0 pre L Du i) x):=by
  intro f0 L H β hfv x hx
  rw [←hev f0 L x hx]
  exact hfv.operands hin' x hx
 have hguard:∀(f0:Fr) (L:List (List Nat × S)) (H:Hp) (β:Bt),FV n H β a (Ba f0 pre L (fun j=>listed.getD j false) pre.length)→∀b,Bo ops (Ba f0 pre L Du i) n o.guard=some b→Region.wanted o (yielded ops a.tmps)=b:=by
  intro f0 L H β hfv b hb
  refine Ha hfv ?_
  rw [←hb]
  unfold Bo
  cases hg:o.guard with
  |none=>rfl
  |some g=>
   obtain ⟨j,want⟩:=g
   simp only
   cases ht:(ops[j]?).bind (·.dst) with
   |none=>rfl
   |some t=>
    simp only
    have htn:t∈B4 ops o:=by
     unfold B4 Oper.looksAt
     rw [hg]
     simp only [List.mem_append]
     exact .inr (.inr (by rw [ht];simp))
    rw [hcur f0 L t htn]
 have hlisted':∀j,(listed.setIfInBounds i true).getD j false=if j=i then true else listed.getD j false:=by
  intro j
  by_cases e:j=i
  ·subst e
   simp [Array.getD_eq_getD_getElem?,show j<listed.size by omega]
  ·rw [if_neg e]
   simp [Array.getD_eq_getD_getElem?,Array.getElem?_setIfInBounds_ne (fun h=>e h.symm)]
 have hdown2:∀j o' e,ops[j]? =some o'→(listed.setIfInBounds i true).getD j false=true→e∈o'.after→Region.binds .any e=true→(listed.setIfInBounds i true).getD e.on false=true:=by
  intro j o' e hj hl he hb
  rw [hlisted'] at hl ⊢
  split
  ·rfl
  ·by_cases ej:j=i
   ·subst ej
    rw [ho] at hj;cases hj
    exact hdeps e he hb
   ·rw [if_neg ej] at hl
    exact hdown j o' e hj hl he hb
 have hslot:∀(f0:Fr) (L:List (List Nat × S)) (q:List Nat × S) (H':Hp) (β':Bt) (u:Value),L[i]? =some q→FV n H' β' a (Ba f0 pre L (fun j=>listed.getD j false) pre.length)→VS H' β' u q.2→FV n H' β' (a.put o.dst u) (Ba f0 pre L (fun j=>(listed.setIfInBounds i true).getD j false) pre.length):=by
  intro f0 L q H' β' u hLi hfv' hu
  have hp:=hfv'.put hu o.dst hoin.2
  refine ⟨hp.defers,hp.size,fun t ht=> ?_⟩
  have h1:=hp.slot t ht
  have hsame:∀j,j≠i→(fun j=>(listed.setIfInBounds i true).getD j false) j=(fun j=>listed.getD j false) j:=fun j hj=>by simp only;rw [hlisted',if_neg hj]
  by_cases hd:o.dst=some t
  ·have ht':t∈B4 ops o:=by unfold B4;simp [hd]
   have e1:Ba f0 pre L (fun j=>(listed.setIfInBounds i true).getD j false) pre.length t=Ba f0 pre L (fun j=>(listed.setIfInBounds i true).getD j false) (i+1) t:=by
    refine Gq (fun j o' hj hj' hd'=> ?_) pre.length (by omega)
    show (listed.setIfInBounds i true).getD j false=false
    rw [hlisted',if_neg (by omega)]
    exact hhi t ht' j o' (by omega) hj' hd'
   have e2:Ba f0 pre L (fun j=>(listed.setIfInBounds i true).getD j false) (i+1) t=q.2:=by
    unfold Ba
    rw [hol,hLi]
    have hb:(listed.setIfInBounds i true).getD i false=true:=by rw [hlisted',if_pos rfl]
    simp only [hb,cond_true,Bf,hd,Ds,Bk]
   have e3:Bf (Ba f0 pre L (fun j=>listed.getD j false) pre.length) o.dst q.2 t=q.2:=by rw [hd];simp only [Bf,Ds,Bk,cond_true]
   rw [e1,e2]
   rw [e3] at h1
   exact h1
  ·have e1:=Kb (f:=f0) (L:=L) (lst:=fun j=>listed.getD j false) (t:=t) hsame (fun o' h=>by rw [hol] at h;cases h;exact hd) pre.length
   have e3:Bf (Ba f0 pre L (fun j=>listed.getD j false) pre.length) o.dst q.2 t=Ba f0 pre L (fun j=>listed.getD j false) pre.length t:=by
    cases hdd:o.dst with
    |none=>rfl
    |some t'=>
     have:t'≠t:=fun e=>hd (by rw [hdd,e])
     simp only [Bf,Ds,Bm this,cond_false]
   rw [e1]
   rw [e3] at h1
   exact h1
 have hsz':(listed.setIfInBounds i true).size=ops.size:=by simpa using hsz
 have hunp2:∀k,pre.length≤k→(listed.setIfInBounds i true).getD k false=false:=fun k hk=>by rw [hlisted',if_neg (by omega)];exact hunp k hk
 have fok:=hok i o c _ _ hol hC' hLA hLB
 have hcls1:=hcl i c hC'
 have hpp2:p≠p2:=fun e=>by rw [e,hp2] at hp;cases hp
 have hbase:(listed.setIfInBounds i true).size=ops.size∧(∀j o e,ops[j]? =some o→(listed.setIfInBounds i true).getD j false=true→e∈o.after→Region.binds .any e=true→(listed.setIfInBounds i true).getD e.on false=true)∧∀k,pre.length≤k→(listed.setIfInBounds i true).getD k false=false:=⟨hsz',hdown2,hunp2⟩
 have keep:∀j,j≠i→(listed.setIfInBounds i true).getD j false=listed.getD j false:=fun j hj=>by rw [hlisted',if_neg hj]
 have hgB:(noI LB)[i]? =some ([],sB):=Qu hLB
 have hgA:(noI LA)[i]? =some ([],sA):=Qu hLA
 unfold wpOp
 rw [ho]
 simp only
 have cas:∀(f0:Fr) (L:List S) (s:S) (hX:Xh) (H:Hp) (β:Bt),L[i]? =some s→OpF P n ops o (Ba f0 pre (noI L) Du i) hX s→Sim E H β hX w→FV n H β a (Ba f0 pre (noI L) (fun j=>listed.getD j false) pre.length)→
   ∀K:Act→World→Prop,(∀a' w',(∃H' β',Sim E H' β' hX w'∧FV n H' β' a' (Ba f0 pre (noI L) (fun j=>(listed.setIfInBounds i true).getD j false) pre.length))→K a' w')→
   ((Region.wanted o (yielded ops a.tmps)=true∧o.wp P a w K NoQ)∨(Region.wanted o (yielded ops a.tmps)=false∧K (a.put o.dst undef) w)):=by
  intro f0 L s hX H β hL hop' hsim hfv K hK
  rcases hop' with ⟨hw,hcalm⟩|⟨hw,hs0⟩
  ·refine .inl ⟨hguard f0 (noI L) H β hfv _ hw,Ea (hcalm E H β a w hsim (fun _ e=>by cases e) (hop f0 (noI L) H β hfv)) ?_⟩
   rintro a' w' ⟨H',β',u,rfl,k1,k2,k3,_,k5⟩
   exact hK _ _ ⟨H',β',k1,hslot f0 (noI L) ([],s) H' β' u (Qu hL) (hfv.mono k2 k3) k5⟩
  ·exact .inr ⟨hguard f0 (noI L) H β hfv _ hw,hK _ _ ⟨H,β,hsim,hslot f0 (noI L) ([],s) H β undef (Qu hL) hfv (by rw [hs0];exact .d (.v _))⟩⟩
 have fin:∀K:Act→World→Prop,(Region.wanted o (yielded ops a.tmps)=true∧o.wp P a w K NoQ)∨(Region.wanted o (yielded ops a.tmps)=false∧K (a.put o.dst undef) w)→
   if Region.wanted o (yielded ops a.tmps)=true then o.wp P a w K Q∨(o.asks P a w∧LetsOut Q) else K (a.put o.dst undef) w:=by
  intro K h
  rcases h with ⟨h1,h2⟩|⟨h1,h2⟩
  ·rw [if_pos h1];exact .inl (Ea h2 fun _ _ h=>h)
  ·rw [if_neg (by rw [h1];decide)];exact h2
 rcases hcase with ⟨hpn,hpn2,H,β,hsim,hfv⟩|⟨hpy,hpn2,H,β,hsim,hfv⟩|⟨hpy2,H,β,hsim,hfv⟩
 ·by_cases hip:i=p
  ·subst hip
   have:c= .mu:=by rw [hC'] at hp;cases hp;rfl
   subst this
   obtain ⟨k1,k2⟩:=fok.m rfl
   refine fin _ (.inl ⟨hguard fA (noI LA) H β hfv _ k1,Ea (k2 _ (hev fA (noI LA)) E H β a w hsim hfv (hfv.operands hin')) ?_⟩)
   rintro a' w' ⟨H',β',u,rfl,q1,q2,_,q3⟩
   refine ⟨hbase, .inr (.inl ⟨by rw [hlisted',if_pos rfl],by rw [keep p2 (fun e=>hpp2 e.symm)];exact hpn2,H',β',q1,hslot fB (noI LB) ([],sB) H' β' u hgB ⟨q2.defers,q2.size,fun t ht=> ?_⟩ q3⟩)⟩
   have hrel := S7 (κ := κ) (l := pre) (LA := noI LA) (LB := noI LB) (lst := fun j => listed.getD j false) (fA := fA) (fB := fB) hf (by rw [noI, noI, List.length_map, List.length_map]; omega) (fun k qa' qb' ha hb hlk => by
    obtain ⟨ha1,_⟩:=Aii ha
    obtain ⟨hb1,_⟩:=Aii hb
    have hkl:k<pre.length:=by rw [←hAl];exact (List.getElem?_eq_some_iff.1 ha1).1
    obtain ⟨c',hC2⟩:∃q,C[k]? =some q:=⟨_,List.getElem?_eq_getElem (by omega)⟩
    have hokk:=hok k _ c' _ _ (List.getElem?_eq_getElem hkl) hC2 ha1 hb1
    have hck:=hcl k c' hC2
    cases c' with
    |bf=>exact (hokk.a (.inl rfl)).2
    |fr=>exact (hokk.a (.inr (.inl rfl))).2
    |ff=>exact (hokk.a (.inr (.inr rfl))).2
    |mu=>
     have:k=i:=hck.1
     subst this
     rw [hunl'] at hlk;cases hlk
    |af=>
     have:=Cy hdown' 9 k i hck.1 hlk
     rw [hunl'] at this;cases this
    |fl=>
     have:=Cy hdown' 9 k i hck hlk
     rw [hunl'] at this;cases this
    |st=>
     have:=Cy hdown' 9 k i hck.2 hlk
     rw [hunl'] at this; cases this) pre.length t
   rw [hrel]
   exact q2.slot t ht
  ·have hnw:C9 ops 9 i p=true→False:=fun h=>by
    have:=hwl 8 p h
    rw [hpn] at this;cases this
   have hcase2:c= .bf∨c= .fr∨c= .ff:=by
    cases c with
    |bf=>exact .inl rfl
    |fr=>exact .inr (.inl rfl)
    |ff=>exact .inr (.inr rfl)
    |mu=>exact absurd hcls1.1 hip
    |af=>exact (hnw hcls1.1).elim
    |fl=>exact (hnw hcls1).elim
    |st=>exact (hnw hcls1.2).elim
   have hip2:i≠p2:=fun e=>by subst e;rw [hC'] at hp2;cases hp2;rcases hcase2 with h|h|h<;>cases h
   exact fin _ (cas fA LA sA hA H β hLA (fok.a hcase2).1 hsim hfv _ fun a' w' ⟨H',β',k1,k2⟩=>⟨hbase, .inl ⟨by rw [keep p (fun e=>hip e.symm)];exact hpn,by rw [keep p2 (fun e=>hip2 e.symm)];exact hpn2,H',β',k1,k2⟩⟩)
 ·have hip:i≠p:=fun e=>by subst e;rw [hunl'] at hpy;cases hpy
  by_cases hip2:i=p2
  ·subst hip2
   have:c= .st:=by rw [hC'] at hp2;cases hp2;rfl
   subst this
   obtain ⟨k1,k2⟩:=fok.s rfl
   refine fin _ (.inl ⟨hguard fB (noI LB) H β hfv _ k1,Ea (k2 _ (hev fB (noI LB)) E H β a w hsim hfv (hfv.operands hin')) ?_⟩)
   rintro a' w' ⟨H',β',u,rfl,q1,q2,_,q3⟩
   exact ⟨hbase, .inr (.inr ⟨by rw [hlisted',if_pos rfl],H',β',q1,hslot fB (noI LB) ([],sB) H' β' u hgB q2 q3⟩)⟩
  ·have hcase2:c= .af∨c= .fr∨c= .fl∨c= .ff:=by
    cases c with
    |af=>exact .inl rfl
    |fr=>exact .inr (.inl rfl)
    |fl=>exact .inr (.inr (.inl rfl))
    |ff=>exact .inr (.inr (.inr rfl))
    |mu=>exact absurd hcls1.1 hip
    |st=>exact absurd hcls1.1 hip2
    |bf=>
     have:=Cy hdown' 9 p i hcls1.1 hpy
     rw [hunl'] at this;cases this
   exact fin _ (cas fB LB sB hB H β hLB (fok.b hcase2) hsim hfv _ fun a' w' ⟨H',β',k1,k2⟩=>⟨hbase, .inr (.inl ⟨by rw [keep p (fun e=>hip e.symm)];exact hpy,by rw [keep p2 (fun e=>hip2 e.symm)];exact hpn2,H',β',k1,k2⟩)⟩)
 ·have hip2:i≠p2:=fun e=>by subst e;rw [hunl'] at hpy2;cases hpy2
  have hnw:C9 ops 9 p2 i=true→False:=fun h=>by
   have:=Cy hdown' 9 p2 i h hpy2
   rw [hunl'] at this;cases this
  have hcase2:c= .fl∨c= .ff:=by
   cases c with
   |fl=>exact .inl rfl
   |ff=>exact .inr rfl
   |af=>exact (hnw hcls1.2).elim
   |fr=>exact (hnw hcls1).elim
   |mu=>exact (hnw hcls1.2).elim
   |st=>exact absurd hcls1.1 hip2
   |bf=>exact (hnw hcls1.2).elim
  exact fin _ (cas fB LB sB hC H β hLB (fok.l hcase2) hsim hfv _ fun a' w' ⟨H',β',k1,k2⟩=>⟨hbase, .inr (.inr ⟨by rw [keep p2 (fun e=>hip2 e.symm)];exact hpy2,H',β',k1,k2⟩)⟩)
theorem Ajz {f0:Fr} {l:List Oper} {L:List (List Nat × S)} {m:Nat}:∀k,Ba f0 l L (fun j=>(Array.replicate m false).getD j false) k=f0:=by
 intro k
 induction k with
 |zero=>rfl
 |succ k ih=>
  unfold Ba
  cases l[k]? with
  |none=>exact ih
  |some o=>
   cases L[k]? with
   |none=>exact ih
   |some q=>
    have hz:(Array.replicate m false).getD k false=false:=by rw [Array.getD_eq_getD_getElem?,Array.getElem?_replicate];split<;>rfl
    simp only
    rw [hz,cond_false]
    exact ih
theorem An5 {P:Program} {n id:Nat} {pre suf:List Oper} {ops:Array Oper} {K:C0} {f f':Fr} {h hB hC:Xh} {κ:S→S} {C:List C3} {LA LB:List S} (p p2:Nat) (hopsE:ops=(pre++suf).toArray) (hne:0<suf.length) (hm:P.follows .mixedOrders=true) (hin:pre.all (inN n)=true) (hin2:suf.all (inN n)=true)
  (hreg:Jd ops pre=true) (hS:Oe ops pre.length=true) (hc:ChF P n ops κ h hB hC pre f (fun t=>κ (f t)) C LA LB f') (hp:C[p]? =some .mu) (hp2:C[p2]? =some .st) (hcls:Agq ops p p2 C=true) (hk:XL P n ops suf K f' hC):XW P n (.region id ops true) K f h:=by
 have hops:∀j,j<pre.length→ops[j]? =pre[j]? :=fun j hj=>by rw [hopsE];simp [List.getElem?_append_left hj]
 have hops2:∀j,suf[j]? =ops[pre.length+j]? :=fun j=>by rw [hopsE,List.getElem?_toArray,List.getElem?_append_right (by omega),Nat.add_sub_cancel_left]
 have hsize:ops.size=pre.length+suf.length:=by rw [hopsE];simp
 intro E H β a w hs hf
 obtain ⟨k1,k2,k3,k8,k10⟩:=hc.ok
 have hpl2:p2<pre.length:=by rw [←k1];exact (List.getElem?_eq_some_iff.1 hp2).1
 have hz:∀k,(Array.replicate ops.size false).getD k false=false:=fun k=>by
  rw [Array.getD_eq_getD_getElem?,Array.getElem?_replicate];split<;>rfl
 refine K9 (I:=Anb n ops pre p p2 f (fun t=>κ (f t)) h hB hC LA LB E) pre.length suf hm hops2 hsize hne hS ⟨⟨by simp,fun j o e _ hj=>(by rw [hz] at hj;cases hj),fun k _=>hz k⟩, .inl ⟨hz p,hz p2,H,β,hs.drew,by rw [Ajz];exact hf⟩⟩ (fun _ _ _ hI=>hI.1) ?_ ?_
 ·intro listed a w hI i hi hip
  exact Ai8 hops hin hreg (fun _=>rfl) k1 k2 k3 k8 hp hp2 hcls hI hi hip
 ·rintro listed a w ⟨_,hcase⟩ hall
  rcases hcase with ⟨_,hpn,_⟩|⟨_,hpn,_⟩|⟨_,H,β,hsim,hfv⟩
  ·rw [hall p2 hpl2] at hpn;cases hpn
  ·rw [hall p2 hpl2] at hpn;cases hpn
  ·refine hk hin2 E H β a w hsim ?_
   rw [S8 hall pre.length (Nat.le_refl _),k10] at hfv
   exact hfv
def ChFK (P:Program) (n:Nat) (ops:Array Oper) (κ:S→S) (hA hB hC:Xh) (rest:List Oper) (fA fB:Fr) (acc:List C3) (G:List C3→Fr→Prop):Prop:=∃C LA LB f',ChF P n ops κ hA hB hC rest fA fB C LA LB f'∧G (acc++C) f'
section
variable {P:Program} {n:Nat} {ops:Array Oper} {κ:S→S} {hA hB hC:Xh} {rest:List Oper} {fA fB:Fr} {o:Oper} {s s':S} {acc:List C3} {G:List C3→Fr→Prop}
theorem ChFK.nil (hg:G acc fB):ChFK P n ops κ hA hB hC [] fA fB acc G:=⟨[], [], [],fB, .nil _ _,by simpa using hg⟩
theorem ChFK.step {c:C3} (hok:FOK P n ops κ hA hB hC o fA fB c s s') (hr:ChFK P n ops κ hA hB hC rest (Bf fA o.dst s) (Bf fB o.dst s') (acc++ [c]) G):ChFK P n ops κ hA hB hC (o::rest) fA fB acc G:=by
 obtain ⟨C,LA,LB,f',k1,k2⟩:=hr
 refine ⟨_,_,_,f', .step hok k1, ?_⟩
 rw [List.append_assoc] at k2
 exact k2
theorem N5 {f:Fr} {h:Xh} (hw:Bo ops f n o.guard=some true) (hc:CStep P o f h [] s h):OpF P n ops o f h s:= .inl ⟨hw,by obtain ⟨_,_,k⟩:=hc;exact k h (HLe.refl _)⟩
theorem ChFK.bf (hw:Bo ops fA n o.guard=some true) (hc:CStep P o fA hA [] s hA) (hk:κ s=s') (hr:ChFK P n ops κ hA hB hC rest (Bf fA o.dst s) (Bf fB o.dst s') (acc++ [.bf]) G):ChFK P n ops κ hA hB hC (o::rest) fA fB acc G:=
 .step ⟨fun _=>⟨N5 hw hc,hk.symm⟩,fun e=>absurd e (by decide),fun e=>absurd e (by decide),fun e=>absurd e (by decide),fun e=>absurd e (by decide)⟩ hr
theorem ChFK.fr (hw:Bo ops fA n o.guard=some true) (hw':Bo ops fB n o.guard=some true) (hc:CStep P o fA hA [] s hA) (hc':CStep P o fB hB [] s' hB) (hk:κ s=s') (hr:ChFK P n ops κ hA hB hC rest (Bf fA o.dst s) (Bf fB o.dst s') (acc++ [.fr]) G):ChFK P n ops κ hA hB hC (o::rest) fA fB acc G:=
 .step ⟨fun _=>⟨N5 hw hc,hk.symm⟩,fun _=>N5 hw' hc',fun e=>absurd e (by decide),fun e=>absurd e (by decide),fun e=>absurd e (by decide)⟩ hr
theorem ChFK.af (hw':Bo ops fB n o.guard=some true) (hc':CStep P o fB hB [] s' hB) (hr:ChFK P n ops κ hA hB hC rest (Bf fA o.dst .any) (Bf fB o.dst s') (acc++ [.af]) G):ChFK P n ops κ hA hB hC (o::rest) fA fB acc G:=
 .step ⟨fun e=>absurd e (by decide),fun _=>N5 hw' hc',fun e=>absurd e (by decide),fun e=>absurd e (by decide),fun e=>absurd e (by decide)⟩ hr
theorem ChFK.fl (hw':Bo ops fB n o.guard=some true) (hc':CStep P o fB hB [] s' hB) (hc2:CStep P o fB hC [] s' hC) (hr:ChFK P n ops κ hA hB hC rest (Bf fA o.dst .any) (Bf fB o.dst s') (acc++ [.fl]) G):ChFK P n ops κ hA hB hC (o::rest) fA fB acc G:=
 .step ⟨fun e=>absurd e (by decide),fun _=>N5 hw' hc',fun _=>N5 hw' hc2,fun e=>absurd e (by decide),fun e=>absurd e (by decide)⟩ hr
theorem ChFK.mu (hw:Bo ops fA n o.guard=some true) (hc:∀hF,HLe hA hF→Kz P n o fA hF 987654 s' κ (hF.by (fun k _=>hB k))) (hr:ChFK P n ops κ hA hB hC rest (Bf fA o.dst .any) (Bf fB o.dst s') (acc++ [.mu]) G):ChFK P n ops κ hA hB hC (o::rest) fA fB acc G:=
 .step ⟨fun e=>absurd e (by decide),fun e=>absurd e (by decide),fun e=>absurd e (by decide),fun _=>⟨hw,hc hA (HLe.refl _)⟩,fun e=>absurd e (by decide)⟩ hr
theorem ChFK.st (hw:Bo ops fB n o.guard=some true) (hc:∀f',(∀x∈o.op.operands,ev f' x=ev fB x)→Step P n o f' hB s' f' hC) (hr:ChFK P n ops κ hA hB hC rest (Bf fA o.dst .any) (Bf fB o.dst s') (acc++ [.st]) G):ChFK P n ops κ hA hB hC (o::rest) fA fB acc G:=
 .step ⟨fun e => absurd e (by decide), fun e => absurd e (by decide), fun e => absurd e (by decide), fun e => absurd e (by decide), fun _ => ⟨hw, fun f' he E H β a w hs hf hop => Ea (hc f' he E H β a w hs hf hop) (by
  rintro a' w' ⟨H',β',u,e,k1,k2,k3⟩
  exact ⟨H', β', u, e, k1, k2, .inl rfl, k3⟩)⟩⟩ hr
end
theorem Y8 {P:Program} {n:Nat} {o:Oper} {f:Fr} {h hC:Xh} {t m:Nat} {x y:Operand} {i k off:Nat} {ty:TypeId} {sz:Nat} {ls:List Nat} (ls':List Nat) {l l':List (List T)} {z:List T} {cs:List S} (ho:o.op= .store t x y) (hx:ev f x= .ptr i k off) (hi:h i=some (.tree ty sz ls l)) (hk:l[k]? =some z) (hc:D8 h (ev f y)=some cs)
  (hz:sizeB P t m=true) (hm:cs.length=m) (hoff:off+m≤z.length) (hsub:ls.all (fun j=>B0 j ls')=true) (hcs:cs.all (fun d=>d.toT.inn ls')=true) (hl':l.set k (sets z off (cs.map S.toT))=l') (hh:HSub (h.set i (.tree ty sz ls' l')) hC):
  ∀f',(∀x∈o.op.operands,ev f' x=ev f x)→Step P n o f' h (.d (.v undef)) f' hC:=fun f' he E H β a w hs hf hop=>by
 have e1:=he x (by rw [ho];simp [Op.operands])
 have e2:=he y (by rw [ho];simp [Op.operands])
 refine Ea (La (n:=n) (f:=f') ls' ho (by rw [e1];exact hx) hi hk (by rw [e2];exact hc) hz hm hoff hsub hcs hl' E H β a w hs hf hop) ?_
 rintro a' w' ⟨H',β',u,e,k1,k2,k3⟩
 exact ⟨H',β',u,e,k1.drop hh,k2,k3⟩
theorem An8 {P:Program} {n id:Nat} {l:List Oper} {K:C0} {f:Fr} {h:Xh} (p p2 q:Nat) (κ:S→S) (hB hC:Xh) (hm:P.follows .mixedOrders=true) (hin:l.all (inN n)=true) (hreg:Jd l.toArray (l.take q)=true) (hS:(Nat.blt q l.length && Oe l.toArray q)=true)
  (hc:ChFK P n l.toArray κ h hB hC (l.take q) f (fun t=>κ (f t)) [] (fun C f'=>(C[p]? =some .mu∧C[p2]? =some .st∧Agq l.toArray p p2 C=true)∧XL P n l.toArray (l.drop q) K f' hC)):XW P n (.region id l.toArray true) K f h:=by
 obtain ⟨C,LA,LB,f',k1,⟨k2,k3,k4⟩,k5⟩:=hc
 rw [Bool.and_eq_true] at hS
 have hp:=E5 hS.1
 rw [←List.take_append_drop q l,List.all_append,Bool.and_eq_true] at hin
 exact An5 p p2 (by rw [List.take_append_drop]) (by rw [List.length_drop];omega) hm hin.1 hin.2 hreg (by rw [List.length_take,Nat.min_eq_left (by omega)];exact hS.2) k1 k2 k3 k4 k5
end Go.Proofs.YtaafemnkamfgnaaGreat
namespace Go.Proofs.YtaafemnkamfgnaaGreat
open Go.RowKit
structure Ev.room (e:Ev):Prop where
 heads:e.heads.length*40≤140737488355328
 graces:e.graces.length*40≤140737488355328
 lyr:e.lyr.length*24≤140737488355328
def Aq6 (s:Sy):Sy:=⟨s.text.take 30,s.link⟩
def Aul (e:Ev):Ev:={e with heads:=e.heads.take 5,graces:=e.graces.take 4,lyr:=(e.lyr.take 5).map Aq6}
def shSys (l:List Sy) (k:Nat):List Sy:=(l.take k).map Aq6++l.drop k
end Go.Proofs.YtaafemnkamfgnaaGreat
namespace Go.Proofs.YtaafemnkamfgnaaGreat
open Go.RowKit
def Vo.room (v:Vo):Prop:=∀e∈v.evs,e.room
def Aq5 (v:Vo):Vo:=⟨(v.evs.take 12).map Aul,v.tups.take 6⟩
def Ms.room (m:Ms):Prop:=∀c∈m.cells,∀v∈c.voices,v.room
def shVt (v:Vo):List T:=(Aq5 v).t
def Aq7 (c:Ce):Ce:=⟨c.clefs.take 8,(c.voices.take 3).map Aq5⟩
def shCt (c:Ce):List T:=(Aq7 c).t
def shH (h:Mh):Mh:={h with reh:=h.reh.take 30}
def shMs (m:Ms):Ms:=⟨shH m.h,m.tempi.take 8,(m.cells.take 4).map Aq7⟩
end Go.Proofs.YtaafemnkamfgnaaGreat
namespace Go.Proofs.YtaafemnkamfgnaaGreat
open Go.RowKit
structure DelG {α:Type} (p:α→Bool) (xs:List α) (j i:Nat) (W:List α):Prop where
 lt:i<j
 le:j≤xs.length
 len:W.length=xs.length
 take:W.take i=(xs.take j).filter p
 drop:W.drop j=xs.drop j
section
variable {α:Type} {p:α→Bool} {xs W:List α} {j i:Nat}
theorem Aen {l:List α} {k:Nat} {g:α} (h:l[k]? =some g) (hg:p g=false):(l.take (k+1)).filter p=(l.take k).filter p:=by rw [B1 h,List.filter_append,List.filter_cons_of_neg (by rw [hg];exact Bool.false_ne_true),List.filter_nil,List.append_nil]
theorem S5 {l:List α} {k:Nat} {g:α} (h:l[k]? =some g) (hg:p g=true):(l.take (k+1)).filter p=(l.take k).filter p++ [g]:=by rw [B1 h,List.filter_append,List.filter_cons_of_pos hg,List.filter_nil]
theorem DelG.get (h:DelG p xs j i W) {g:α} (hg:xs[j]? =some g):W[j]? =some g:=by
 have:=congrArg (fun l=>l[0]?) h.drop
 simpa [List.getElem?_drop,hg] using this
theorem DelG.keep (h:DelG p xs j i W) {g:α} (hg:xs[j]? =some g) (h0:p g=false):DelG p xs (j+1) i W:=by
 have:=(List.getElem?_eq_some_iff.1 hg).1
 have:=h.lt
 refine ⟨by omega,by omega,h.len,by rw [Aen hg h0];exact h.take, ?_⟩
 rw [←List.drop_drop,h.drop,List.drop_drop]
theorem DelG.put (h:DelG p xs j i W) {g:α} (hg:xs[j]? =some g) (h0:p g=true):DelG p xs (j+1) (i+1) (W.set i g):=by
 have h1:=(List.getElem?_eq_some_iff.1 hg).1
 have h2:=h.lt
 have h3:=h.len
 refine ⟨by omega,by omega,by rw [List.length_set];exact h3, ?_, ?_⟩
 ·rw [S5 hg h0, ←h.take,List.take_succ_eq_append_getElem (by rw [List.length_set];omega),List.getElem_set_self,List.take_set_of_le (Nat.le_refl _)]
 ·rw [List.drop_set_of_lt (by omega), ←List.drop_drop,h.drop,List.drop_drop]
theorem DelG.start {k:Nat} {g:α} (hg:xs[k]? =some g) (h0:p g=false) (hk:(xs.take k).filter p=xs.take k):DelG p xs (k+1) k xs:=
 ⟨by omega,by have:=(List.getElem?_eq_some_iff.1 hg).1;omega,rfl,by rw [Aen hg h0,hk],rfl⟩
theorem DelG.fin (h:DelG p xs j i W) (hj:j=xs.length):W.take i=xs.filter p:=by rw [h.take,hj,List.take_length]
theorem DelG.clr (h:DelG p xs j i W) {g:α→List D} {z:α} {zs:List D} (hz:zs=g z):sets (W.map g) i (List.replicate ((W.map g).length - i) zs)=(W.take i++List.replicate (W.length - i) z).map g:=by
 have:=h.lt;have:=h.le;have:=h.len
 subst hz
 rw [Jp _ _ _ (by rw [List.length_replicate,List.length_map];omega),List.drop_eq_nil_of_le (by rw [List.length_replicate,List.length_map];omega),List.append_nil,List.map_append,List.map_take,List.map_replicate,List.length_map]
theorem DelG.cut (h:DelG p xs j i W) {g:α→List D} {z:α}:(((W.take i++List.replicate (W.length - i) z).map g).take i)=(W.take i).map g:=by
 have:=h.lt;have:=h.le;have:=h.len
 rw [←List.map_take,List.take_append_of_le_length (by rw [List.length_take];omega),List.take_take,Nat.min_self]
end
def cfK (n:Int) (x:Cf):Bool:=decide (¬n≤x.tk)
def tmK (n:Int) (x:Tm):Bool:=decide (¬n≤x.tk)
theorem Aj2 {n:Int} {x:Cf} (h:n≤x.tk):cfK n x=false:=by rw [cfK,decide_eq_false];exact fun k=>k h
theorem Aez {n:Int} {x:Cf} (h:¬n≤x.tk):cfK n x=true:=by rw [cfK,decide_eq_true h]
theorem Ahc {n:Int} {x:Tm} (h:n≤x.tk):tmK n x=false:=by rw [tmK,decide_eq_false];exact fun k=>k h
theorem Adx {n:Int} {x:Tm} (h:¬n≤x.tk):tmK n x=true:=by rw [tmK,decide_eq_true h]
def Cv (old p:Pl) (c:Ce):Ce:=⟨c.clefs.filter (cfK p.len),c.voices.map fun v=>(Ei v old p).1⟩
def Is (old p:Pl):List Vo→Int
 | []=>0
 |v::l=>if (Ei v old p).2≠0 then (Ei v old p).2 else Is old p l
def J8 (old p:Pl):List Ce→Int
 | []=>0
 |c::l=>if Is old p c.voices≠0 then Is old p c.voices else J8 old p l
theorem Ame {old p:Pl} {l:List Vo} {k:Nat} {v:Vo} (hv:l[k]? =some v) (h:(Ei v old p).2=0):Is old p (l.drop k)=Is old p (l.drop (k+1)):=by rw [By hv,Is,if_neg (by omega)]
theorem Y6 {old p:Pl} {l:List Vo} {k:Nat} {v:Vo} (hv:l[k]? =some v) (h:(Ei v old p).2≠0):Is old p (l.drop k)=(Ei v old p).2:=by rw [By hv,Is,if_pos h]
theorem Y7 {old p:Pl} {l:List Ce} {k:Nat} {c:Ce} (hc:l[k]? =some c) (h:Is old p c.voices=0):J8 old p (l.drop k)=J8 old p (l.drop (k+1)):=by rw [By hc,J8,if_neg (by omega)]
theorem Amf {old p:Pl} {l:List Ce} {k:Nat} {c:Ce} (hc:l[k]? =some c) (h:Is old p c.voices≠0):J8 old p (l.drop k)=Is old p c.voices:=by rw [By hc,J8,if_pos h]
def Mh.z:Mh:=⟨0,0,Me.z,0,0,false,0,0,0,0,0,0, []⟩
def Ms.z:Ms:=⟨Mh.z, [], []⟩
def Agf (m:Ms) (t:Me) (n:Int) (old p:Pl):Ms:=⟨m.h.sh t n,m.tempi.filter (tmK p.len),m.cells.map (Cv old p)⟩
def Jh (m:Ms) (t:Me) (n:Int):Int:=if mlE m.h.m m.h.len≠0 then mlE m.h.m m.h.len else if mlE t n≠0 then mlE t n else J8 (plS m.h.m m.h.len) (plS t n) m.cells
def Mu (m:Ms) (t:Me) (n:Int):Ms:=if Jh m t n≠0 then Ms.z else Agf m t n (plS m.h.m m.h.len) (plS t n)
theorem Auw {m:Ms} {t:Me} {n:Int} (h:mlE m.h.m m.h.len≠0):Jh m t n=mlE m.h.m m.h.len∧Mu m t n=Ms.z:=by
 have e:Jh m t n=mlE m.h.m m.h.len:=by rw [Jh,if_pos h]
 exact ⟨e,by rw [Mu,e,if_pos h]⟩
theorem Asj {m:Ms} {t:Me} {n:Int} (h:¬mlE m.h.m m.h.len≠0) (h2:mlE t n≠0):Jh m t n=mlE t n∧Mu m t n=Ms.z:=by
 have e:Jh m t n=mlE t n:=by rw [Jh,if_neg h,if_pos h2]
 exact ⟨e,by rw [Mu,e,if_pos h2]⟩
theorem Auv {m:Ms} {t:Me} {n e:Int} (h:¬mlE m.h.m m.h.len≠0) (h2:¬mlE t n≠0) (h3:J8 (plS m.h.m m.h.len) (plS t n) m.cells=e) (h4:e≠0):Jh m t n=e∧Mu m t n=Ms.z:=by
 have e:Jh m t n=e:=by rw [Jh,if_neg h,if_neg h2,h3]
 exact ⟨e,by rw [Mu,e,if_pos h4]⟩
theorem Asi {m:Ms} {t:Me} {n:Int} (h:¬mlE m.h.m m.h.len≠0) (h2:¬mlE t n≠0) (h3:J8 (plS m.h.m m.h.len) (plS t n) m.cells=0):Jh m t n=0∧Mu m t n=Agf m t n (plS m.h.m m.h.len) (plS t n):=by
 have e:Jh m t n=0:=by rw [Jh,if_neg h,if_neg h2,h3]
 exact ⟨e,by rw [Mu,e,if_neg (by decide)]⟩
theorem U2 {m m':Ms} {e e':Int} (h:e=e'∧m=m'):D.tup [.agg (Ms.c m'),dI e']= .tup [.agg (Ms.c m),dI e]:=by rw [h.1,h.2]
theorem Al1 (h:Mh) (t:Me) (n:Int) (A B:Option Addr) (n0 c0 n1 c1:Nat):XC Tryz.prog 16 [.agg [dI (h.sh t n).site,dI (h.sh t n).num,dI (h.sh t n).m.count,dI (h.sh t n).m.unit,dI (h.sh t n).m.g0,dI (h.sh t n).m.g1,dI (h.sh t n).m.g2,dI (h.sh t n).m.g3,dI (h.sh t n).m.g4,dI (h.sh t n).m.g5,dI (h.sh t n).len,dI (h.sh t n).fifths,dB (h.sh t n).start,dI (h.sh t n).fin,dI (h.sh t n).ends,dI (h.sh t n).jump,dI (h.sh t n).labels,dI (h.sh t n).swing,dI (h.sh t n).brk, .v (.string ⟨(h.sh t n).reh.toArray⟩), .v (.slice A n0 c0), .v (.slice B n1 c1)]] (fun r=>r= .tup [.agg (Pl.c (plS t n)),dI (mlE t n)]):=by
 have k:=Alk (h.sh t n) A B n0 c0 n1 c1
 have e1:plS (h.sh t n).m (h.sh t n).len=plS t n:=Arg
 have e2:mlE (h.sh t n).m (h.sh t n).len=mlE t n:=Pw
 rw [e1,e2] at k
 exact k
theorem Ah1 {t:Me} {n:Int} (h:¬mlE t n≠0):1≤(plS t n).len∧(plS t n).len≤15482880∧0≤(plS t n).off∧(plS t n).off≤123863040:=by
 have k:=Af4 h
 have hl:=k.me.len
 rw [Ak1 h]
 exact ⟨k.lo,k.hi,by simp only;omega,by simp only;have:=k.lo;omega⟩
end Go.Proofs.YtaafemnkamfgnaaGreat
namespace Go.Proofs.YtaafemnkamfgnaaGreat
open Go.RowKit
theorem Apf (m:Ms) (t:Me) (n:Int) (hF:m.fit) (hE:m.evs):XC Tryz.prog 28 [.agg (Ms.c m), .agg (Me.c t), .v (.int .i64 n)] (fun r=>r= .tup [.agg (Ms.c (Mu m t n)),dI (Jh m t n)]):=by
 refine Aj Adn Tryz.func28 R R lb<|zr<|?_
 refine XL.step R (Aq 3 (l:= [.d (dI m.h.site), .d (dI m.h.num), .d (dI m.h.m.count), .d (dI m.h.m.unit), .d (dI m.h.m.g0), .d (dI m.h.m.g1), .d (dI m.h.m.g2), .d (dI m.h.m.g3), .d (dI m.h.m.g4), .d (dI m.h.m.g5), .d (dI m.h.len), .d (dI m.h.fifths), .d (dB m.h.start), .d (dI m.h.fin), .d (dI m.h.ends), .d (dI m.h.jump), .d (dI m.h.labels), .d (dI m.h.swing), .d (dI m.h.brk), .d (.v (.string ⟨m.h.reh.toArray⟩)), .d (.sl 3 (m.tempi.map Tm.c)), .d (.sl 2 (m.cells.map Ce.c))]) R R (by kernel_rfl))<|?_
 refine XL.step R (Aq 4 (l:= [.d (dI t.count), .d (dI t.unit), .d (dI t.g0), .d (dI t.g1), .d (dI t.g2), .d (dI t.g3), .d (dI t.g4), .d (dI t.g5)]) R R (by kernel_rfl))<|?_
 refine XL.step R (Al 6 (l:= [.d (dI 0), .d (dI 0), .d (dI 0), .d (dI 0), .d (dI 0), .d (dI 0), .d (dI 0), .d (dI 0), .d (dI 0), .d (dI 0), .d (dI 0), .d (dI 0), .d (dB false), .d (dI 0), .d (dI 0), .d (dI 0), .d (dI 0), .d (dI 0), .d (dI 0), .d (.v (.string ⟨#[]⟩)), .d (.v (.slice none 0 0)), .d (.v (.slice none 0 0))]) R Bn (by kernel_rfl))<|za R R<|znr<|?_
 refine zp (Ae (s':= .d (.agg (Ms.c m))) (Aa (Ad R R A1 R lb)) (by kernel_rfl))<|XL.call1 R R (All m.h m.tempi m.cells) R<|zm R R<|zp (An R R R)<|zp (An R R R)<|XL.step R (Al 8 (l:= [.d (dI 0), .d (dI 0), .d (dI 0), .d (dI 0), .d (dI 0), .d (dI 0), .d (dI 0), .d (dI 0), .d (dI 0), .d (dI 0)]) R Hs (by kernel_rfl))<|?_
 refine XL.step R (Ag (l':= [.d (dI (plS m.h.m m.h.len).m.count), .d (dI (plS m.h.m m.h.len).m.unit), .d (dI (plS m.h.m m.h.len).m.g0), .d (dI (plS m.h.m m.h.len).m.g1), .d (dI (plS m.h.m m.h.len).m.g2), .d (dI (plS m.h.m m.h.len).m.g3), .d (dI (plS m.h.m m.h.len).m.g4), .d (dI (plS m.h.m m.h.len).m.g5), .d (dI (plS m.h.m m.h.len).off), .d (dI (plS m.h.m m.h.len).len)]) R R R R M6 R lb (by kernel_rfl))<|?_
 refine za R R<|zn<|zs<|zr<|zm R R<|zp (As R R R)<|zn<|?_
 refine zd R (fun c21=> ?_) (fun c21=> ?_)
 refine zr<|?_
 refine zp (Ae (s':= .d (.agg [dI 0,dI 0,dI 0,dI 0,dI 0,dI 0,dI 0,dI 0,dI 0,dI 0,dI 0,dI 0,dB false,dI 0,dI 0,dI 0,dI 0,dI 0,dI 0, .v (.string ⟨#[]⟩), .v (.slice none 0 0), .v (.slice none 0 0)])) (Aa (Ao (r:= [.d (dI 0), .d (dI 0), .d (dI 0), .d (dI 0), .d (dI 0), .d (dI 0), .d (dI 0), .d (dI 0), .d (dI 0), .d (dI 0), .d (dI 0), .d (dI 0), .d (dB false), .d (dI 0), .d (dI 0), .d (dI 0), .d (dI 0), .d (dI 0), .d (dI 0), .d (.v (.string ⟨#[]⟩)), .d (.v (.slice none 0 0)), .d (.v (.slice none 0 0))]) R Cz Bn (by kernel_rfl))) (by kernel_rfl))<|?_
 refine zm R R<|XL.step R (Ag (l':= [.d (dI 0), .d (dI 0), .d (dI 0), .d (dI 0), .d (dI 0), .d (dI 0), .d (dI 0), .d (dI 0), .d (dI 0), .d (dI 0), .d (dI 0), .d (dI 0), .d (dB false), .d (dI 0), .d (dI 0), .d (dI 0), .d (dI 0), .d (dI 0), .d (dI 0), .d (.v (.string ⟨#[]⟩)), .d (.v (.slice none 0 0)), .d (.v (.slice none 0 0))]) R R R R Ed R lb (by kernel_rfl))<|za R R<|zn<|zt<|?_
 exact Az R (RV.sub (RV.cells R R R A1 lb R) (.agg (.cons (.same R) (.cons (.same R) (.cons (.same R) (.cons (.same R) (.cons (.same R) (.cons (.same R) (.cons (.same R) (.cons (.same R) (.cons (.same R) (.cons (.same R) (.cons (.same R) (.cons (.same R) (.cons (.same R) (.cons (.same R) (.cons (.same R) (.cons (.same R) (.cons (.same R) (.cons (.same R) (.cons (.same R) (.cons (.same R) (.cons (.nil 3) (.cons (.nil 2) (.nil))))))))))))))))))))))))) (RV.tmp R R) (U2 (Auw c21))
 refine zi<|zs<|?_
 refine L7 9 10 [7401,7402,10] id 10 (Sx 10 (.box [.d (dI (m.h.sh t n).site), .d (dI (m.h.sh t n).num), .d (dI (m.h.sh t n).m.count), .d (dI (m.h.sh t n).m.unit), .d (dI (m.h.sh t n).m.g0), .d (dI (m.h.sh t n).m.g1), .d (dI (m.h.sh t n).m.g2), .d (dI (m.h.sh t n).m.g3), .d (dI (m.h.sh t n).m.g4), .d (dI (m.h.sh t n).m.g5), .d (dI (m.h.sh t n).len), .d (dI (m.h.sh t n).fifths), .d (dB (m.h.sh t n).start), .d (dI (m.h.sh t n).fin), .d (dI (m.h.sh t n).ends), .d (dI (m.h.sh t n).jump), .d (dI (m.h.sh t n).labels), .d (dI (m.h.sh t n).swing), .d (dI (m.h.sh t n).brk), .d (.v (.string ⟨(m.h.sh t n).reh.toArray⟩)), .own 7401, .own 7402])) (by kernel_rfl) (by kernel_rfl) (by kernel_rfl) (by kernel_rfl) R (by decide)<|?_
 refine ChMK.bf R (CStep.pure (Ae (s':= .d (.agg (Ms.c m))) (Aa (Ad R R A1 R lb)) (by kernel_rfl))) (by conv=>lhs;whnf)<|?_
 refine ChMK.bfS R (CStep.callS R (Aio _ (by assumption)) R (Yy (by kernel_rfl))) (by conv=>lhs;whnf) (by simp only [List.forall_mem_cons];exact ⟨rfl,⟨rfl,fun p hp=>(by cases hp)⟩⟩) (by simp only [List.forall_mem_cons];exact ⟨rfl,⟨rfl,fun p hp=>(by cases hp)⟩⟩)<|?_
 refine ChMK.bf R (CStep.pure (Ae (s':= .d (.agg (Me.c t))) (Aa (Ad R R A7 R lb)) (by kernel_rfl))) (by conv=>lhs;whnf)<|?_
 refine ChMK.bf R (CStep.pure (Aw R (by conv=>lhs;whnf))) (by conv=>lhs;whnf)<|?_
 refine ChMK.bf R (CStep.callP [7401,7402] R [.agg [.d (dI m.h.site), .d (dI m.h.num), .d (dI m.h.m.count), .d (dI m.h.m.unit), .d (dI m.h.m.g0), .d (dI m.h.m.g1), .d (dI m.h.m.g2), .d (dI m.h.m.g3), .d (dI m.h.m.g4), .d (dI m.h.m.g5), .d (dI m.h.len), .d (dI m.h.fifths), .d (dB m.h.start), .d (dI m.h.fin), .d (dI m.h.ends), .d (dI m.h.jump), .d (dI m.h.labels), .d (dI m.h.swing), .d (dI m.h.brk), .d (.v (.string ⟨m.h.reh.toArray⟩)), .own 7401, .own 7402], .d (.agg (Me.c t)), .d (dI n)] R (s:= .tup [.agg [.d (dI (m.h.sh t n).site), .d (dI (m.h.sh t n).num), .d (dI (m.h.sh t n).m.count), .d (dI (m.h.sh t n).m.unit), .d (dI (m.h.sh t n).m.g0), .d (dI (m.h.sh t n).m.g1), .d (dI (m.h.sh t n).m.g2), .d (dI (m.h.sh t n).m.g3), .d (dI (m.h.sh t n).m.g4), .d (dI (m.h.sh t n).m.g5), .d (dI (m.h.sh t n).len), .d (dI (m.h.sh t n).fifths), .d (dB (m.h.sh t n).start), .d (dI (m.h.sh t n).fin), .d (dI (m.h.sh t n).ends), .d (dI (m.h.sh t n).jump), .d (dI (m.h.sh t n).labels), .d (dI (m.h.sh t n).swing), .d (dI (m.h.sh t n).brk), .d (.v (.string ⟨(m.h.sh t n).reh.toArray⟩)), .own 7401, .own 7402], .d (dI (mlE t n))]) (fun ρ=>Xv m.h _ _ _ _ _ _ t n) R R R R) (by conv=>lhs;whnf)<|?_
 refine ChMK.bf R (CStep.pure (Aw R (by conv=>lhs;whnf))) (by conv=>lhs;whnf)<|?_
 refine ChMK.bf R (CStep.pure (Yb R R R)) (by conv=>lhs;whnf)<|?_
 refine ChMK.fr R R (CStep.pure (Yb R R R)) (CStep.pure (Yb R R R)) (by exact rfl)<|?_
 refine ChMK.bfO R (CStep.allocN 10 (l:= [.d (dI 0), .d (dI 0), .d (dI 0), .d (dI 0), .d (dI 0), .d (dI 0), .d (dI 0), .d (dI 0), .d (dI 0), .d (dI 0), .d (dI 0), .d (dI 0), .d (dB false), .d (dI 0), .d (dI 0), .d (dI 0), .d (dI 0), .d (dI 0), .d (dI 0), .d (.v (.string ⟨#[]⟩)), .d (.v (.slice none 0 0)), .d (.v (.slice none 0 0))]) R Bn R R) (by conv=>lhs;whnf) (fun _ _=>Alj _ _)<|?_
 refine ChMK.mu R (Apg (l2:= [.d (dI (m.h.sh t n).site), .d (dI (m.h.sh t n).num), .d (dI (m.h.sh t n).m.count), .d (dI (m.h.sh t n).m.unit), .d (dI (m.h.sh t n).m.g0), .d (dI (m.h.sh t n).m.g1), .d (dI (m.h.sh t n).m.g2), .d (dI (m.h.sh t n).m.g3), .d (dI (m.h.sh t n).m.g4), .d (dI (m.h.sh t n).m.g5), .d (dI (m.h.sh t n).len), .d (dI (m.h.sh t n).fifths), .d (dB (m.h.sh t n).start), .d (dI (m.h.sh t n).fin), .d (dI (m.h.sh t n).ends), .d (dI (m.h.sh t n).jump), .d (dI (m.h.sh t n).labels), .d (dI (m.h.sh t n).swing), .d (dI (m.h.sh t n).brk), .d (.v (.string ⟨(m.h.sh t n).reh.toArray⟩)), .own 7401, .own 7402]) R R R R Ed R lb (by kernel_rfl))<|?_
 refine ChMK.nil ⟨⟨by kernel_rfl,by kernel_rfl,by kernel_rfl⟩, ?_⟩
 refine za R R<|zn<|zs<|zr<|zm R R<|zp (As R R R)<|zn<|?_
 refine zd R (fun c33=> ?_) (fun c33=> ?_)
 refine zr<|?_
 refine zp (Ae (s':= .d (.agg [dI 0,dI 0,dI 0,dI 0,dI 0,dI 0,dI 0,dI 0,dI 0,dI 0,dI 0,dI 0,dB false,dI 0,dI 0,dI 0,dI 0,dI 0,dI 0, .v (.string ⟨#[]⟩), .v (.slice none 0 0), .v (.slice none 0 0)])) (Aa (Ao (r:= [.d (dI 0), .d (dI 0), .d (dI 0), .d (dI 0), .d (dI 0), .d (dI 0), .d (dI 0), .d (dI 0), .d (dI 0), .d (dI 0), .d (dI 0), .d (dI 0), .d (dB false), .d (dI 0), .d (dI 0), .d (dI 0), .d (dI 0), .d (dI 0), .d (dI 0), .d (.v (.string ⟨#[]⟩)), .d (.v (.slice none 0 0)), .d (.v (.slice none 0 0))]) R Cz Bn (by kernel_rfl))) (by kernel_rfl))<|?_
 refine zm R R<|XL.step R (Ag (l':= [.d (dI 0), .d (dI 0), .d (dI 0), .d (dI 0), .d (dI 0), .d (dI 0), .d (dI 0), .d (dI 0), .d (dI 0), .d (dI 0), .d (dI 0), .d (dI 0), .d (dB false), .d (dI 0), .d (dI 0), .d (dI 0), .d (dI 0), .d (dI 0), .d (dI 0), .d (.v (.string ⟨#[]⟩)), .d (.v (.slice none 0 0)), .d (.v (.slice none 0 0))]) R R R R Ed R lb (by kernel_rfl))<|za R R<|zn<|zt<|?_
 exact Az R (RV.sub (RV.cells R R R A1 lb R) (.agg (.cons (.same R) (.cons (.same R) (.cons (.same R) (.cons (.same R) (.cons (.same R) (.cons (.same R) (.cons (.same R) (.cons (.same R) (.cons (.same R) (.cons (.same R) (.cons (.same R) (.cons (.same R) (.cons (.same R) (.cons (.same R) (.cons (.same R) (.cons (.same R) (.cons (.same R) (.cons (.same R) (.cons (.same R) (.cons (.same R) (.cons (.nil 3) (.cons (.nil 2) (.nil))))))))))))))))))))))))) (RV.tmp R R) (U2 (Asj c21 c33))
 refine zi<|zr<|zp (Aa (Ad R R A1 R lb))<|?_
 refine XL.callP [7401,7402] R R [.agg [.d (dI (m.h.sh t n).site), .d (dI (m.h.sh t n).num), .d (dI (m.h.sh t n).m.count), .d (dI (m.h.sh t n).m.unit), .d (dI (m.h.sh t n).m.g0), .d (dI (m.h.sh t n).m.g1), .d (dI (m.h.sh t n).m.g2), .d (dI (m.h.sh t n).m.g3), .d (dI (m.h.sh t n).m.g4), .d (dI (m.h.sh t n).m.g5), .d (dI (m.h.sh t n).len), .d (dI (m.h.sh t n).fifths), .d (dB (m.h.sh t n).start), .d (dI (m.h.sh t n).fin), .d (dI (m.h.sh t n).ends), .d (dI (m.h.sh t n).jump), .d (dI (m.h.sh t n).labels), .d (dI (m.h.sh t n).swing), .d (dI (m.h.sh t n).brk), .d (.v (.string ⟨(m.h.sh t n).reh.toArray⟩)), .own 7401, .own 7402]] R (s:= .d (.tup [.agg (Pl.c (plS t n)),dI (mlE t n)])) (fun ρ=>Al1 m.h t n _ _ _ _ _ _) R R R R<|?_
 refine zm R R<|zp (An R R R)<|zp (An R R R)<|XL.step R (Al 11 (l:= [.d (dI 0), .d (dI 0), .d (dI 0), .d (dI 0), .d (dI 0), .d (dI 0), .d (dI 0), .d (dI 0), .d (dI 0), .d (dI 0)]) R Hs (by kernel_rfl))<|?_
 refine XL.step R (Ag (l':= [.d (dI (plS t n).m.count), .d (dI (plS t n).m.unit), .d (dI (plS t n).m.g0), .d (dI (plS t n).m.g1), .d (dI (plS t n).m.g2), .d (dI (plS t n).m.g3), .d (dI (plS t n).m.g4), .d (dI (plS t n).m.g5), .d (dI (plS t n).off), .d (dI (plS t n).len)]) R R R R M6 R lb (by kernel_rfl))<|za R R<|zn<|zs<|zr<|zm R R<|zp (As R R R)<|zn<|?_
 refine zd R (fun c42=> ?_) (fun c42=> ?_)
 refine zr<|?_
 refine zp (Ae (s':= .d (.agg [dI 0,dI 0,dI 0,dI 0,dI 0,dI 0,dI 0,dI 0,dI 0,dI 0,dI 0,dI 0,dB false,dI 0,dI 0,dI 0,dI 0,dI 0,dI 0, .v (.string ⟨#[]⟩), .v (.slice none 0 0), .v (.slice none 0 0)])) (Aa (Ao (r:= [.d (dI 0), .d (dI 0), .d (dI 0), .d (dI 0), .d (dI 0), .d (dI 0), .d (dI 0), .d (dI 0), .d (dI 0), .d (dI 0), .d (dI 0), .d (dI 0), .d (dB false), .d (dI 0), .d (dI 0), .d (dI 0), .d (dI 0), .d (dI 0), .d (dI 0), .d (.v (.string ⟨#[]⟩)), .d (.v (.slice none 0 0)), .d (.v (.slice none 0 0))]) R Cz Bn (by kernel_rfl))) (by kernel_rfl))<|?_
 refine zm R R<|XL.step R (Ag (l':= [.d (dI 0), .d (dI 0), .d (dI 0), .d (dI 0), .d (dI 0), .d (dI 0), .d (dI 0), .d (dI 0), .d (dI 0), .d (dI 0), .d (dI 0), .d (dI 0), .d (dB false), .d (dI 0), .d (dI 0), .d (dI 0), .d (dI 0), .d (dI 0), .d (dI 0), .d (.v (.string ⟨#[]⟩)), .d (.v (.slice none 0 0)), .d (.v (.slice none 0 0))]) R R R R Ed R lb (by kernel_rfl))<|za R R<|zn<|zt<|?_
 exact Az R (RV.sub (RV.cells R R R A1 lb R) (.agg (.cons (.same R) (.cons (.same R) (.cons (.same R) (.cons (.same R) (.cons (.same R) (.cons (.same R) (.cons (.same R) (.cons (.same R) (.cons (.same R) (.cons (.same R) (.cons (.same R) (.cons (.same R) (.cons (.same R) (.cons (.same R) (.cons (.same R) (.cons (.same R) (.cons (.same R) (.cons (.same R) (.cons (.same R) (.cons (.same R) (.cons (.nil 3) (.cons (.nil 2) (.nil))))))))))))))))))))))))) (RV.tmp R R) (U2 (Asj c21 c42))
 refine zi<|zs<|zs<|?_
 have h1:=hF.tempi
 have h2:=hF.cells
 have hO:=Ah1 c21
 have hP:=Ah1 (t:=t) (n:=n) c33
 refine Af (by kernel_rfl)<|XL.freezeP 8 (ds:=Pl.c (plS m.h.m m.h.len)) R (by kernel_rfl) (by kernel_rfl)<|XL.freezeP 11 (ds:=Pl.c (plS t n)) R (by kernel_rfl) (by kernel_rfl)<|zp (Ac R R C2)<|zp (Ab R R G1 R R)<|zp (Ae (s':= .d (dI m.cells.length)) (Tz R R R Tryz.underlying28) (sI (by rw [List.length_map])))<|zm R R<|zn<|Ah<|?_
 refine A6 (α:=Nat) (fun k=>k≤m.cells.length∧J8 (plS m.h.m m.h.len) (plS t n) (m.cells.drop k)=J8 (plS m.h.m m.h.len) (plS t n) m.cells) (fun k=>mkF [(6, .ptr 6 0 0),(8, .d (.pt (Pl.c (plS m.h.m m.h.len)))),(10, .ptr 10 0 0),(11, .d (.pt (Pl.c (plS t n)))),(47, .d (dI m.cells.length)),(48, .d (dI k))]) (fun k=>mkH [(6, .box [.d (dI 0), .d (dI 0), .d (dI 0), .d (dI 0), .d (dI 0), .d (dI 0), .d (dI 0), .d (dI 0), .d (dI 0), .d (dI 0), .d (dI 0), .d (dI 0), .d (dB false), .d (dI 0), .d (dI 0), .d (dI 0), .d (dI 0), .d (dI 0), .d (dI 0), .d (.v (.string ⟨#[]⟩)), .d (.v (.slice none 0 0)), .d (.v (.slice none 0 0))]),(10, .box [.d (dI (m.h.sh t n).site), .d (dI (m.h.sh t n).num), .d (dI (m.h.sh t n).m.count), .d (dI (m.h.sh t n).m.unit), .d (dI (m.h.sh t n).m.g0), .d (dI (m.h.sh t n).m.g1), .d (dI (m.h.sh t n).m.g2), .d (dI (m.h.sh t n).m.g3), .d (dI (m.h.sh t n).m.g4), .d (dI (m.h.sh t n).m.g5), .d (dI (m.h.sh t n).len), .d (dI (m.h.sh t n).fifths), .d (dB (m.h.sh t n).start), .d (dI (m.h.sh t n).fin), .d (dI (m.h.sh t n).ends), .d (dI (m.h.sh t n).jump), .d (dI (m.h.sh t n).labels), .d (dI (m.h.sh t n).swing), .d (dI (m.h.sh t n).brk), .d (.v (.string ⟨(m.h.sh t n).reh.toArray⟩)), .own 7401, .own 7402]),(7401, .row 119 3 ((m.tempi).map Tm.c)),(7402, .tree 78 2 [] (mix Ce.u Ce.t ((m.cells.take k).map (Cv (plS m.h.m m.h.len) (plS t n))) (m.cells.drop k)))]) (fun k=>m.cells.length - k) (0) (⟨Nat.zero_le _,R⟩) ?_ ?_ ?_
 exact fz ⟨sr,sr,sr,sr,sr,sr,trivial⟩
 exact gz ⟨R,R,R,R,trivial⟩
 intro k hk0
 obtain ⟨hk,hgo⟩:=hk0
 refine zr<|zp (Ar R R R)<|zn<|zs<|?_
 refine zd R (fun c49=> ?_) (fun c49=> ?_)
 have hk0a:k<m.cells.length:=by omega
 obtain ⟨x0,hx0⟩:=A3 hk0a
 refine zi<|zs<|Ah<|zr<|zm R R<|za R R<|znr<|zp (Ac R R C2)<|zp (Ab R R G1 R R)<|zm R R<|zp (Ol R R R (R) R Ni (Yi hk0a))<|zp (Ay R (by conv=>lhs;whnf))<|?_
 refine zn<|zs<|zs<|?_
 have hcl:=(hF.c x0 (List.mem_of_getElem? hx0)).clefs
 have hvl:=(hF.c x0 (List.mem_of_getElem? hx0)).voices
 refine Ake (i:=7402) (j:=7502) (k:=k) (m:=1) (l':=(mix Ce.u Ce.t ((m.cells.take k).map (Cv (plS m.h.m m.h.len) (plS t n))) (m.cells.drop k)).set k [.row 84 2 (((x0.clefs).map Cf.c).map (·.map T.d)), .own 7502]) [] (x0.voices.map Vo.t) R R R (F6 hx0) R (Vos.t_in [] _) (R)<|?_
 refine R9 (i:=7402) (j:=7501) (k:=k) (m:=0) (l':=(mix Ce.u Ce.t ((m.cells.take k).map (Cv (plS m.h.m m.h.len) (plS t n))) (m.cells.drop k)).set k [.own 7501, .own 7502]) ((x0.clefs).map Cf.c) R R R (Eq (F6 hx0)) R (List.set_set ..)<|Af (by kernel_rfl)<|zp (Aw R (by conv=>lhs;whnf))<|?_
 refine zp (H9 R R)<|zp (Ac R R D0)<|zp (Ae (s':= .own 7502) (I3 R R Gi R (Eq (F6 hx0)) R) R)<|zp (Ae (s':= .d (dI x0.voices.length)) (Tz R R R Tryz.underlying76) (sI (by rw [List.length_map])))<|zm R R<|zn<|Ah<|?_
 refine A6 (α:=Nat) (fun j=>j≤x0.voices.length∧Is (plS m.h.m m.h.len) (plS t n) (x0.voices.drop j)=Is (plS m.h.m m.h.len) (plS t n) x0.voices) (fun j=>mkF [(6, .ptr 6 0 0),(8, .d (.pt (Pl.c (plS m.h.m m.h.len)))),(10, .ptr 10 0 0),(11, .d (.pt (Pl.c (plS t n)))),(13, .ptr 7402 k 0),(47, .d (dI m.cells.length)),(48, .d (dI k)),(59, .d (dI x0.voices.length)),(60, .d (dI j))]) (fun j=>mkH [(6, .box [.d (dI 0), .d (dI 0), .d (dI 0), .d (dI 0), .d (dI 0), .d (dI 0), .d (dI 0), .d (dI 0), .d (dI 0), .d (dI 0), .d (dI 0), .d (dI 0), .d (dB false), .d (dI 0), .d (dI 0), .d (dI 0), .d (dI 0), .d (dI 0), .d (dI 0), .d (.v (.string ⟨#[]⟩)), .d (.v (.slice none 0 0)), .d (.v (.slice none 0 0))]),(10, .box [.d (dI (m.h.sh t n).site), .d (dI (m.h.sh t n).num), .d (dI (m.h.sh t n).m.count), .d (dI (m.h.sh t n).m.unit), .d (dI (m.h.sh t n).m.g0), .d (dI (m.h.sh t n).m.g1), .d (dI (m.h.sh t n).m.g2), .d (dI (m.h.sh t n).m.g3), .d (dI (m.h.sh t n).m.g4), .d (dI (m.h.sh t n).m.g5), .d (dI (m.h.sh t n).len), .d (dI (m.h.sh t n).fifths), .d (dB (m.h.sh t n).start), .d (dI (m.h.sh t n).fin), .d (dI (m.h.sh t n).ends), .d (dI (m.h.sh t n).jump), .d (dI (m.h.sh t n).labels), .d (dI (m.h.sh t n).swing), .d (dI (m.h.sh t n).brk), .d (.v (.string ⟨(m.h.sh t n).reh.toArray⟩)), .own 7401, .own 7402]),(7401, .row 119 3 ((m.tempi).map Tm.c)),(7402, .tree 78 2 [7501,7502] ((mix Ce.u Ce.t ((m.cells.take k).map (Cv (plS m.h.m m.h.len) (plS t n))) (m.cells.drop k)).set k [.own 7501, .own 7502])),(7501, .row 84 2 ((x0.clefs).map Cf.c)),(7502, .tree 82 2 [] (mix Vo.u Vo.t ((x0.voices.take j).map (fun v=>(Ei v (plS m.h.m m.h.len) (plS t n)).1)) (x0.voices.drop j)))]) (fun j=>x0.voices.length - j) (0) (⟨Nat.zero_le _,R⟩) ?_ ?_ ?_
 exact fz ⟨sr,sr,sr,sr,sr,sr,sr,sr,sr,trivial⟩
 exact gz ⟨R,R,R,R,R,R,trivial⟩
 intro j hk2
 obtain ⟨hj,hgv⟩:=hk2
 refine zr<|zp (Ar R R R)<|zn<|zs<|?_
 refine zd R (fun c61=> ?_) (fun c61=> ?_)
 have hk2a:j<x0.voices.length:=by omega
 obtain ⟨x2,hx2⟩:=A3 hk2a
 refine zi<|zs<|Ah<|zr<|zm R R<|za R R<|zn<|zs<|?_
 have hfv:=(hF.c x0 (List.mem_of_getElem? hx0)).v x2 (List.mem_of_getElem? hx2)
 have hEv:=hE x0 (List.mem_of_getElem? hx0) x2 (List.mem_of_getElem? hx2)
 have hfl:=hfv.evs
 refine R9 (i:=7502) (j:=7601) (k:=j) (m:=0) (l':=(mix Vo.u Vo.t ((x0.voices.take j).map (fun v=>(Ei v (plS m.h.m m.h.len) (plS t n)).1)) (x0.voices.drop j)).set j [.own 7601, .row 157 4 (((x2.tups).map Tp.c).map (·.map T.d))]) ((x2.evs).map Ev.c) R R R (F6 hx2) R (R)<|?_
 refine R9 (i:=7502) (j:=7602) (k:=j) (m:=1) (l':=(mix Vo.u Vo.t ((x0.voices.take j).map (fun v=>(Ei v (plS m.h.m m.h.len) (plS t n)).1)) (x0.voices.drop j)).set j [.own 7601, .own 7602]) ((x2.tups).map Tp.c) R R R (Eq (F6 hx2)) R (List.set_set ..)<|O9 (i:=7602) R<|?_
 refine Xe (i:=7502) (l':=(mix Vo.u Vo.t ((x0.voices.take j).map (fun v=>(Ei v (plS m.h.m m.h.len) (plS t n)).1)) (x0.voices.drop j)).set j [.own 7601, .d (.sl 4 (x2.tups.map Tp.c))]) [7601] R (T3 (Qv [] _ _) R) (Hq (Qv [] _ _) (Lg (R) (R)) _)<|?_
 refine An8 14 19 20 (S.kills [900001,7601,5003,5004,5005,5006,5029,900002,7001]) (mkH [(6, .box [.d (dI 0), .d (dI 0), .d (dI 0), .d (dI 0), .d (dI 0), .d (dI 0), .d (dI 0), .d (dI 0), .d (dI 0), .d (dI 0), .d (dI 0), .d (dI 0), .d (dB false), .d (dI 0), .d (dI 0), .d (dI 0), .d (dI 0), .d (dI 0), .d (dI 0), .d (.v (.string ⟨#[]⟩)), .d (.v (.slice none 0 0)), .d (.v (.slice none 0 0))]),(10, .box [.d (dI (m.h.sh t n).site), .d (dI (m.h.sh t n).num), .d (dI (m.h.sh t n).m.count), .d (dI (m.h.sh t n).m.unit), .d (dI (m.h.sh t n).m.g0), .d (dI (m.h.sh t n).m.g1), .d (dI (m.h.sh t n).m.g2), .d (dI (m.h.sh t n).m.g3), .d (dI (m.h.sh t n).m.g4), .d (dI (m.h.sh t n).m.g5), .d (dI (m.h.sh t n).len), .d (dI (m.h.sh t n).fifths), .d (dB (m.h.sh t n).start), .d (dI (m.h.sh t n).fin), .d (dI (m.h.sh t n).ends), .d (dI (m.h.sh t n).jump), .d (dI (m.h.sh t n).labels), .d (dI (m.h.sh t n).swing), .d (dI (m.h.sh t n).brk), .d (.v (.string ⟨(m.h.sh t n).reh.toArray⟩)), .own 7401, .own 7402]),(7401, .row 119 3 ((m.tempi).map Tm.c)),(7402, .tree 78 2 [7501,7502] ((mix Ce.u Ce.t ((m.cells.take k).map (Cv (plS m.h.m m.h.len) (plS t n))) (m.cells.drop k)).set k [.own 7501, .own 7502])),(7501, .row 84 2 ((x0.clefs).map Cf.c)),(7502, .tree 82 2 [] ((mix Vo.u Vo.t ((x0.voices.take j).map (fun v=>(Ei v (plS m.h.m m.h.len) (plS t n)).1)) (x0.voices.drop j)).set j [.any, .d (.sl 4 (x2.tups.map Tp.c))]))]) (mkH [(6, .box [.d (dI 0), .d (dI 0), .d (dI 0), .d (dI 0), .d (dI 0), .d (dI 0), .d (dI 0), .d (dI 0), .d (dI 0), .d (dI 0), .d (dI 0), .d (dI 0), .d (dB false), .d (dI 0), .d (dI 0), .d (dI 0), .d (dI 0), .d (dI 0), .d (dI 0), .d (.v (.string ⟨#[]⟩)), .d (.v (.slice none 0 0)), .d (.v (.slice none 0 0))]),(10, .box [.d (dI (m.h.sh t n).site), .d (dI (m.h.sh t n).num), .d (dI (m.h.sh t n).m.count), .d (dI (m.h.sh t n).m.unit), .d (dI (m.h.sh t n).m.g0), .d (dI (m.h.sh t n).m.g1), .d (dI (m.h.sh t n).m.g2), .d (dI (m.h.sh t n).m.g3), .d (dI (m.h.sh t n).m.g4), .d (dI (m.h.sh t n).m.g5), .d (dI (m.h.sh t n).len), .d (dI (m.h.sh t n).fifths), .d (dB (m.h.sh t n).start), .d (dI (m.h.sh t n).fin), .d (dI (m.h.sh t n).ends), .d (dI (m.h.sh t n).jump), .d (dI (m.h.sh t n).labels), .d (dI (m.h.sh t n).swing), .d (dI (m.h.sh t n).brk), .d (.v (.string ⟨(m.h.sh t n).reh.toArray⟩)), .own 7401, .own 7402]),(7401, .row 119 3 ((m.tempi).map Tm.c)),(7402, .tree 78 2 [7501,7502] ((mix Ce.u Ce.t ((m.cells.take k).map (Cv (plS m.h.m m.h.len) (plS t n))) (m.cells.drop k)).set k [.own 7501, .own 7502])),(7501, .row 84 2 ((x0.clefs).map Cf.c)),(7502, .tree 82 2 [] ((mix Vo.u Vo.t ((x0.voices.take j).map (fun v=>(Ei v (plS m.h.m m.h.len) (plS t n)).1)) (x0.voices.drop j)).set j [.d (.sl 13 (((Ei x2 (plS m.h.m m.h.len) (plS t n)).1).evs.map Ev.c)), .d (.sl 4 (((Ei x2 (plS m.h.m m.h.len) (plS t n)).1).tups.map Tp.c))]))]) (by kernel_rfl) (by kernel_rfl) (by kernel_rfl) (by kernel_rfl)<|?_
 refine ChFK.fr R R (CStep.pure (Aw R (by conv=>lhs;whnf))) (CStep.pure (Aw R (by conv=>lhs;whnf))) (by exact rfl)<|?_
 refine ChFK.fr R R (CStep.pure (H9 R R)) (CStep.pure (H9 R R)) (by exact rfl)<|ChFK.fr R R (CStep.pure (Ac R R D0)) (CStep.pure (Ac R R D0)) (by exact rfl)<|?_
 refine ChFK.fr R R (CStep.pure (Ae (s':= .own 7502) (I3 R R Gi R (Eq (F6 hx0)) R) R)) (CStep.pure (Ae (s':= .own 7502) (I3 R R Gi R (Eq (F6 hx0)) R) R)) (by exact rfl)<|ChFK.fr R R (CStep.pure (Aw R (by conv=>lhs;whnf))) (CStep.pure (Aw R (by conv=>lhs;whnf))) (by exact rfl)<|?_
 refine ChFK.bf R (CStep.pure (Aw R (by conv=>lhs;whnf))) (by conv=>lhs;whnf)<|?_
 refine ChFK.bf R (CStep.pure (H9 R R)) (by conv=>lhs;whnf)<|?_
 refine ChFK.bf R (CStep.pure (Ac R R D0)) (by conv=>lhs;whnf)<|?_
 refine ChFK.bf R (CStep.pure (Ae (s':= .own 7502) (I3 R R Gi R (Eq (F6 hx0)) R) R)) (by conv=>lhs;whnf)<|?_
 refine ChFK.bf R (CStep.pure (Aw R (by conv=>lhs;whnf))) (by conv=>lhs;whnf)<|?_
 refine ChFK.bf R (CStep.pure (Ol R R R (R) R Kv (Ahp (Yi hk2a)))) (by conv=>lhs;whnf)<|?_
 refine ChFK.bf R (CStep.pure (Ae (s':=(.agg [.own 7601, .d (.sl 4 (x2.tups.map Tp.c))])) (Ya R R Ax R (Eq (F6 hx2)) lb) (by kernel_rfl))) (by conv=>lhs;whnf)<|?_
 refine ChFK.bf R (CStep.pure (Ae (s':= .d (.agg (Pl.c (plS m.h.m m.h.len)))) (A9 R R Gs lb) (by kernel_rfl))) (by conv=>lhs;whnf)<|?_
 refine ChFK.bf R (CStep.pure (Ae (s':= .d (.agg (Pl.c (plS t n)))) (A9 R R Gs lb) (by kernel_rfl))) (by conv=>lhs;whnf)<|?_
 refine ChFK.mu R (Atp 900001 [7601,5003,5004,5005,5006,5029,900002,7001] (.d (.tup [.agg (Vo.c (Ei x2 (plS m.h.m m.h.len) (plS t n)).1),dI (Ei x2 (plS m.h.m m.h.len) (plS t n)).2])) (mkH [(6, .box [.d (dI 0), .d (dI 0), .d (dI 0), .d (dI 0), .d (dI 0), .d (dI 0), .d (dI 0), .d (dI 0), .d (dI 0), .d (dI 0), .d (dI 0), .d (dI 0), .d (dB false), .d (dI 0), .d (dI 0), .d (dI 0), .d (dI 0), .d (dI 0), .d (dI 0), .d (.v (.string ⟨#[]⟩)), .d (.v (.slice none 0 0)), .d (.v (.slice none 0 0))]),(10, .box [.d (dI (m.h.sh t n).site), .d (dI (m.h.sh t n).num), .d (dI (m.h.sh t n).m.count), .d (dI (m.h.sh t n).m.unit), .d (dI (m.h.sh t n).m.g0), .d (dI (m.h.sh t n).m.g1), .d (dI (m.h.sh t n).m.g2), .d (dI (m.h.sh t n).m.g3), .d (dI (m.h.sh t n).m.g4), .d (dI (m.h.sh t n).m.g5), .d (dI (m.h.sh t n).len), .d (dI (m.h.sh t n).fifths), .d (dB (m.h.sh t n).start), .d (dI (m.h.sh t n).fin), .d (dI (m.h.sh t n).ends), .d (dI (m.h.sh t n).jump), .d (dI (m.h.sh t n).labels), .d (dI (m.h.sh t n).swing), .d (dI (m.h.sh t n).brk), .d (.v (.string ⟨(m.h.sh t n).reh.toArray⟩)), .own 7401, .own 7402]),(7401, .row 119 3 ((m.tempi).map Tm.c)),(7402, .tree 78 2 [7501,7502] ((mix Ce.u Ce.t ((m.cells.take k).map (Cv (plS m.h.m m.h.len) (plS t n))) (m.cells.drop k)).set k [.own 7501, .own 7502])),(7501, .row 84 2 ((x0.clefs).map Cf.c)),(7502, .tree 82 2 [] ((mix Vo.u Vo.t ((x0.voices.take j).map (fun v=>(Ei v (plS m.h.m m.h.len) (plS t n)).1)) (x0.voices.drop j)).set j [.any, .d (.sl 4 (x2.tups.map Tp.c))]))]) R .d Ac6 Tryz.func63 R R lb (fun u1 fp1=> ?_)) ?_
 refine Akh (i:=7502) (k:=j) (m:=0) (l':=(mix Vo.u Vo.t ((x0.voices.take j).map (fun v=>(Ei v (plS m.h.m m.h.len) (plS t n)).1)) (x0.voices.drop j)).set j [.any, .d (.sl 4 (x2.tups.map Tp.c))]) [] R (Eq (F6 hx2)) R (List.set_set ..) (Hq (Qv [] _ _) (Lg (R) (R)) _)<|zr<|XL.step R (Aq 5003 (l:= [.own 7601, .d (.sl 4 (x2.tups.map Tp.c))]) R R (by kernel_rfl))<|?_
 refine XL.step R (Aq 5004 (l:= [.d (dI (plS m.h.m m.h.len).m.count), .d (dI (plS m.h.m m.h.len).m.unit), .d (dI (plS m.h.m m.h.len).m.g0), .d (dI (plS m.h.m m.h.len).m.g1), .d (dI (plS m.h.m m.h.len).m.g2), .d (dI (plS m.h.m m.h.len).m.g3), .d (dI (plS m.h.m m.h.len).m.g4), .d (dI (plS m.h.m m.h.len).m.g5), .d (dI (plS m.h.m m.h.len).off), .d (dI (plS m.h.m m.h.len).len)]) R R (by kernel_rfl))<|?_
 refine XL.step R (Aq 5005 (l:= [.d (dI (plS t n).m.count), .d (dI (plS t n).m.unit), .d (dI (plS t n).m.g0), .d (dI (plS t n).m.g1), .d (dI (plS t n).m.g2), .d (dI (plS t n).m.g3), .d (dI (plS t n).m.g4), .d (dI (plS t n).m.g5), .d (dI (plS t n).off), .d (dI (plS t n).len)]) R R (by kernel_rfl))<|?_
 refine XL.step R (Al 5006 (l:= [.d (.v (.slice none 0 0)), .d (.v (.slice none 0 0))]) R Bc (by kernel_rfl))<|za R R<|znr<|za R R<|zn<|zs<|Ah<|zr<|zp (Aa (Ad R R Ax R lb))<|?_
 refine XL.inl 900002 [(3, .ptr 5003 0 0),(4, .ptr 5004 0 0),(5, .ptr 5005 0 0),(6, .ptr 5006 0 0),(7, .d (dI 0)),(8, .d (dI 0))] R R .d R2 Tryz.func56 R R lb (by simp only [List.forall_mem_cons];exact ⟨⟨Nat.le_of_ble_eq_true rfl,rfl⟩,⟨⟨Nat.le_of_ble_eq_true rfl,rfl⟩,⟨⟨Nat.le_of_ble_eq_true rfl,rfl⟩,⟨⟨Nat.le_of_ble_eq_true rfl,rfl⟩,⟨⟨Nat.le_of_ble_eq_true rfl,rfl⟩,⟨⟨Nat.le_of_ble_eq_true rfl,rfl⟩,fun p hp=>(by cases hp)⟩⟩⟩⟩⟩⟩) fun u2=>?_
 refine zr<|XL.step R (Aq 7001 (l:= [.own 7601, .d (.sl 4 (x2.tups.map Tp.c))]) R R (by kernel_rfl))<|za R R<|znr<|zp (Ac R R B2)<|zp (Ab R R De R R)<|zp (Ck R R R Tryz.underlying79)<|zp (A5 R R R)<|za R R<|zn<|zt<|?_
 refine (D4 (l:= [(3, .ptr 5003 0 0),(4, .ptr 5004 0 0),(5, .ptr 5005 0 0),(6, .ptr 5006 0 0),(7, .d (dI 0)),(8, .d (dI 0))]) (by kernel_rfl) (rs1 R (RV.tmp R R)) ?_).2
 refine zp (Ey R R)<|zm R R<|?_
 refine XL.dec 35 R (fun g35i=> ?_) (fun g35i=> ?_)
 refine zk 5 R<|zq R R R<|zm R R<|zk 12 R<|zq R R R<|za R R<|zn<|Au (by kernel_rfl) R<|zr<|XL.freeze (i:=7601) R<|zp (Ae (s':= .d (.agg [.sl 13 (x2.evs.map Ev.c), .sl 4 (x2.tups.map Tp.c)])) (Aa (Ad R R Ax R lb)) (by kernel_rfl))<|XL.step R (Ag (l':= [.d (.sl 13 (x2.evs.map Ev.c)), .d (.sl 4 (x2.tups.map Tp.c))]) R R R R Bp R lb (by kernel_rfl))<|za R R<|zn<|?_
 refine zt<|?_
 exact J5 R (by repeat (first|exact GL.z|refine GL.k ?_ rfl|refine GL.f ?_ rfl|refine GL.p ?_ rfl)) (Jv (rs2 R (RV.cells R R R Ax lb R) (RV.tmp R R)) (congrArg S.d (Mo (Al0 (by unfold Vo.same;omega))))) (gz ⟨R,R,R,R,R,R,trivial⟩)
 refine zp (Ac R R Cx)<|zp (Ab R R Ai R R)<|zp (Ac R R Cx)<|zp (Ab R R Ai R R)<|zp (A8 R R R)<|zq R R R<|zm R R<|?_
 refine XL.dec 42 R (fun g42i=> ?_) (fun g42i=> ?_)
 refine zk 12 R<|zq R R R<|za R R<|zn<|Au (by kernel_rfl) R<|zr<|XL.freeze (i:=7601) R<|zp (Ae (s':= .d (.agg [.sl 13 (x2.evs.map Ev.c), .sl 4 (x2.tups.map Tp.c)])) (Aa (Ad R R Ax R lb)) (by kernel_rfl))<|XL.step R (Ag (l':= [.d (.sl 13 (x2.evs.map Ev.c)), .d (.sl 4 (x2.tups.map Tp.c))]) R R R R Bp R lb (by kernel_rfl))<|za R R<|zn<|zt<|?_
 exact J5 R (by repeat (first|exact GL.z|refine GL.k ?_ rfl|refine GL.f ?_ rfl|refine GL.p ?_ rfl)) (Jv (rs2 R (RV.cells R R R Ax lb R) (RV.tmp R R)) (congrArg S.d (Mo (Al0 (by unfold Vo.same;omega))))) (gz ⟨R,R,R,R,R,R,trivial⟩)
 refine zp (Ac R R B2)<|zp (Ab R R De R R)<|zp (Ck R R R Tryz.underlying79)<|zp (A8 R R R)<|zm R R<|?_
 refine XL.dec 47 R (fun g47i=> ?_) (fun g47i=> ?_)
 obtain ⟨e0,he0⟩:∃e,x2.evs[0]? =some e:=A3 (by omega)
 have hwh:=Kd he0
 refine zp (Ac R R B2)<|zp (Ab R R De R R)<|zp (Dd R R R ((R:(0:Int)=((0:Nat):Int))) R Hm (by first|omega|(simp only [List.length_map];omega)))<|zp (Ac R R Dk)<|zp (Lm R R Ai R (Dw he0) R)<|zp (A8 R R R)<|zq R R R<|zq R R R<|za R R<|zn<|?_
 refine zd R (fun c31i=> ?_) (fun c31i=> ?_)
 refine zr<|XL.freeze (i:=7601) R<|zp (Ae (s':= .d (.agg [.sl 13 (x2.evs.map Ev.c), .sl 4 (x2.tups.map Tp.c)])) (Aa (Ad R R Ax R lb)) (by kernel_rfl))<|XL.step R (Ag (l':= [.d (.sl 13 (x2.evs.map Ev.c)), .d (.sl 4 (x2.tups.map Tp.c))]) R R R R Bp R lb (by kernel_rfl))<|za R R<|zn<|zt<|?_
 exact J5 R (by repeat (first|exact GL.z|refine GL.k ?_ rfl|refine GL.f ?_ rfl|refine GL.p ?_ rfl)) (Jv (rs2 R (RV.cells R R R Ax lb R) (RV.tmp R R)) (congrArg S.d (Mo (Al0 (.inr (.inr ⟨by omega,hwh.2 (by omega)⟩)))))) (gz ⟨rfl,rfl,rfl,rfl,rfl,rfl,trivial⟩)
 refine zr<|zp (Ac R R Cx)<|zp (Ab R R Ai R R)<|zp (Ac R R Cx)<|zp (Ab R R Ai R R)<|zp (Ar R R R)<|za R R<|zn<|?_
 refine zd R (fun c57i=> ?_) (fun c57i=> ?_)
 refine Af (by kernel_rfl)<|XL.freeze (i:=7601) R<|zp (Ae (s':= .d (.agg (Vo.c x2))) (Aa (Ad R R Ax R lb)) (by kernel_rfl))<|zp (Ae (s':= .d (.agg (Pl.c (plS m.h.m m.h.len)))) (Aa (Ad R R Gs R lb)) (by kernel_rfl))<|zp (Ac R R Cx)<|zp (Ab R R Ai R R)<|XL.call1 R R (Ajy _ _ _ _ (by assumption) (by assumption)) R<|?_
 refine zm R R<|zp (An R R R)<|zp (An R R R)<|XL.step R (Ag (l':= [.d (.sl 13 (((En x2 (plS m.h.m m.h.len) 0 ((plS t n).len)).1).evs.map Ev.c)), .d (.sl 4 (((En x2 (plS m.h.m m.h.len) 0 ((plS t n).len)).1).tups.map Tp.c))]) R R R R Bp R lb (by kernel_rfl))<|za R R<|zn<|zs<|zr<|zm R R<|zp (As R R R)<|zn<|?_
 refine zd R (fun c72i=> ?_) (fun c72i=> ?_)
 refine zr<|zp (Ae (s':= .d (.agg [.v (.slice none 0 0), .v (.slice none 0 0)])) (Aa (Ao R Cu Bc R)) (by kernel_rfl))<|zm R R<|XL.step R (Ag (l':= [.d (.v (.slice none 0 0)), .d (.v (.slice none 0 0))]) R R R R Bp R lb (by kernel_rfl))<|za R R<|zn<|zt<|?_
 exact J5 R (by repeat (first|exact GL.z|refine GL.k ?_ rfl|refine GL.f ?_ rfl|refine GL.p ?_ rfl)) (Jv (rs2 R (RV.sub (RV.cells R R R Ax lb R) (.agg (.cons (.nil 13) (.cons (.nil 4) (.nil))))) (RV.tmp R R)) (congrArg S.d (Mo (Ash (by unfold Vo.same;rw [hwh];omega) c57i c72i)))) (gz ⟨R,R,R,R,R,R,trivial⟩)
 refine zi<|zs<|?_
 have hEc:=(Zd (v:=x2) (p:=(plS m.h.m m.h.len)) (a:=0) (b:=(plS t n).len) (by omega) hfv).1
 refine Dn 5 [] (by kernel_rfl) (by kernel_rfl) (by kernel_rfl) (by kernel_rfl) (by decide)<|yp (Ae (s':= .d (.agg (Vo.c (En x2 (plS m.h.m m.h.len) 0 ((plS t n).len)).1))) (Aa (Ad R R Ax R lb)) (by kernel_rfl))<|yp (Ae (s':= .d (.agg (Vo.c (En x2 (plS m.h.m m.h.len) 0 ((plS t n).len)).1))) (Aa (Ad R R Ax R lb)) (by kernel_rfl))<|?_
 refine yp (Ac R R Cx)<|yp (Ab R R Ai R R)<|ChK.cons R (CStep.call R (Kp _ _ (by assumption)) R)<|?_
 refine ChK.nil ⟨by kernel_rfl, ?_⟩
 refine XL.step R (Ag (l':= [.d (.sl 13 (((En x2 (plS m.h.m m.h.len) 0 ((plS t n).len)).1).evs.map Ev.c)), .d (.sl 4 (((En x2 (plS m.h.m m.h.len) 0 ((plS t n).len)).1).tups.map Tp.c))]) R R R R Bp R lb (by kernel_rfl))<|za R R<|zn<|zt<|?_
 exact J5 R (by repeat (first|exact GL.z|refine GL.k ?_ rfl|refine GL.f ?_ rfl|refine GL.p ?_ rfl)) (Jv (rs2 R (RV.cells R R R Ax lb R) (RV.tmp R R)) (congrArg S.d (Mo (Asg (by unfold Vo.same;rw [hwh];omega) c57i c72i)))) (gz ⟨R,R,R,R,R,R,trivial⟩)
 refine zr<|za R R<|zn<|zs<|?_
 have hrl:=Vm (plS t n).m ((plS t n).off+(plS m.h.m m.h.len).len) ((plS t n).off+(plS t n).len)
 refine Af (by kernel_rfl)<|zp (Ac R R Mt)<|zp (Ae (s':= .d (.agg (Me.c (plS t n).m))) (Aa (Ad R R A7 R lb)) (by kernel_rfl))<|zp (Ac R R Gy)<|zp (Ab R R Ai R R)<|zp (Ac R R Cx)<|zp (Ab R R Ai R R)<|zp (Am R R R (by omega) (by omega))<|zp (Ac R R Gy)<|zp (Ab R R Ai R R)<|?_
 refine zp (Ac R R Cx)<|zp (Ab R R Ai R R)<|zp (Am R R R (by omega) (by omega))<|XL.call1 R R (X3 _ _ _) R<|zm R R<|zp (An R R R)<|zp (An R R R)<|za R R<|za R R<|zng<|zp (Ac R R B2)<|zp (Ab R R De R R)<|zm R R<|XL.step R (Bg R G4 (.own R) (Src.sl (by omega)) (by unfold maxLen;simp;omega) (by simp;omega))<|?_
 refine XL.rowq (i:=7601) (l':=(x2.evs++H7 (plS t n).m ((plS t n).off+(plS m.h.m m.h.len).len) ((plS t n).off+(plS t n).len)).map Ev.c) R (Qx)<|zp (Ac R R B2)<|XL.step R (Ag (l':= [.own 7601, .d (.sl 4 (x2.tups.map Tp.c))]) R R R R Tl R lb (by kernel_rfl))<|zn<|zs<|zr<|zm R R<|zp (As R R R)<|zn<|?_
 refine zd R (fun c72i=> ?_) (fun c72i=> ?_)
 refine zr<|zp (Ae (s':= .d (.agg [.v (.slice none 0 0), .v (.slice none 0 0)])) (Aa (Ao R Cu Bc R)) (by kernel_rfl))<|zm R R<|XL.step R (Ag (l':= [.d (.v (.slice none 0 0)), .d (.v (.slice none 0 0))]) R R R R Bp R lb (by kernel_rfl))<|za R R<|zn<|zt<|?_
 exact J5 R (by repeat (first|exact GL.z|refine GL.k ?_ rfl|refine GL.f ?_ rfl|refine GL.p ?_ rfl)) (Jv (rs2 R (RV.sub (RV.cells R R R Ax lb R) (.agg (.cons (.nil 13) (.cons (.nil 4) (.nil))))) (RV.tmp R R)) (congrArg S.d (Mo (Asf (by unfold Vo.same;rw [hwh];omega) c57i c72i)))) (gz ⟨R,R,R,R,R,R,trivial⟩)
 refine zi<|zs<|?_
 have hEc:=Aeq hEv (Vn (plS t n).m ((plS t n).off+(plS m.h.m m.h.len).len) ((plS t n).off+(plS t n).len))
 refine O9 (i:=7601) R<|Dn 5 [] (by kernel_rfl) (by kernel_rfl) (by kernel_rfl) (by kernel_rfl) (by decide)<|yp (Ae (s':= .d (.agg (Vo.c (Lh x2 (plS m.h.m m.h.len) (plS t n))))) (Aa (Ad R R Ax R lb)) (by kernel_rfl))<|yp (Ae (s':= .d (.agg (Vo.c (Lh x2 (plS m.h.m m.h.len) (plS t n))))) (Aa (Ad R R Ax R lb)) (by kernel_rfl))<|?_
 refine yp (Ac R R Cx)<|yp (Ab R R Ai R R)<|ChK.cons R (CStep.call R (Kp _ _ (by assumption)) R)<|?_
 refine ChK.nil ⟨by kernel_rfl, ?_⟩
 refine XL.step R (Ag (l':= [.d (.sl 13 ((Lh x2 (plS m.h.m m.h.len) (plS t n)).evs.map Ev.c)), .d (.sl 4 ((Lh x2 (plS m.h.m m.h.len) (plS t n)).tups.map Tp.c))]) R R R R Bp R lb (by kernel_rfl))<|za R R<|zn<|zt<|?_
 exact J5 R (by repeat (first|exact GL.z|refine GL.k ?_ rfl|refine GL.f ?_ rfl|refine GL.p ?_ rfl)) (Jv (rs2 R (RV.cells R R R Ax lb R) (RV.tmp R R)) (congrArg S.d (Mo (Ase (by unfold Vo.same;rw [hwh];omega) c57i c72i)))) (gz ⟨R,R,R,R,R,R,trivial⟩)
 refine zk 6 R<|zq R R R<|zq R R R<|za R R<|zn<|Av (by kernel_rfl) R<|zr<|zp (Ac R R Cx)<|zp (Ab R R Ai R R)<|zp (Ac R R Cx)<|zp (Ab R R Ai R R)<|zp (Ar R R R)<|za R R<|zn<|?_
 refine zd R (fun c57i=> ?_) (fun c57i=> ?_)
 refine Af (by kernel_rfl)<|XL.freeze (i:=7601) R<|zp (Ae (s':= .d (.agg (Vo.c x2))) (Aa (Ad R R Ax R lb)) (by kernel_rfl))<|zp (Ae (s':= .d (.agg (Pl.c (plS m.h.m m.h.len)))) (Aa (Ad R R Gs R lb)) (by kernel_rfl))<|zp (Ac R R Cx)<|zp (Ab R R Ai R R)<|XL.call1 R R (Ajy _ _ _ _ (by assumption) (by assumption)) R<|?_
 refine zm R R<|zp (An R R R)<|zp (An R R R)<|XL.step R (Ag (l':= [.d (.sl 13 (((En x2 (plS m.h.m m.h.len) 0 ((plS t n).len)).1).evs.map Ev.c)), .d (.sl 4 (((En x2 (plS m.h.m m.h.len) 0 ((plS t n).len)).1).tups.map Tp.c))]) R R R R Bp R lb (by kernel_rfl))<|za R R<|zn<|zs<|zr<|zm R R<|zp (As R R R)<|zn<|?_
 refine zd R (fun c72i=> ?_) (fun c72i=> ?_)
 refine zr<|zp (Ae (s':= .d (.agg [.v (.slice none 0 0), .v (.slice none 0 0)])) (Aa (Ao R Cu Bc R)) (by kernel_rfl))<|zm R R<|XL.step R (Ag (l':= [.d (.v (.slice none 0 0)), .d (.v (.slice none 0 0))]) R R R R Bp R lb (by kernel_rfl))<|za R R<|zn<|zt<|?_
 exact J5 R (by repeat (first|exact GL.z|refine GL.k ?_ rfl|refine GL.f ?_ rfl|refine GL.p ?_ rfl)) (Jv (rs2 R (RV.sub (RV.cells R R R Ax lb R) (.agg (.cons (.nil 13) (.cons (.nil 4) (.nil))))) (RV.tmp R R)) (congrArg S.d (Mo (Ash (by unfold Vo.same;omega) c57i c72i)))) (gz ⟨R,R,R,R,R,R,trivial⟩)
 refine zi<|zs<|?_
 have hEc:=(Zd (v:=x2) (p:=(plS m.h.m m.h.len)) (a:=0) (b:=(plS t n).len) (by omega) hfv).1
 refine Dn 5 [] (by kernel_rfl) (by kernel_rfl) (by kernel_rfl) (by kernel_rfl) (by decide)<|yp (Ae (s':= .d (.agg (Vo.c (En x2 (plS m.h.m m.h.len) 0 ((plS t n).len)).1))) (Aa (Ad R R Ax R lb)) (by kernel_rfl))<|yp (Ae (s':= .d (.agg (Vo.c (En x2 (plS m.h.m m.h.len) 0 ((plS t n).len)).1))) (Aa (Ad R R Ax R lb)) (by kernel_rfl))<|?_
 refine yp (Ac R R Cx)<|yp (Ab R R Ai R R)<|ChK.cons R (CStep.call R (Kp _ _ (by assumption)) R)<|?_
 refine ChK.nil ⟨by kernel_rfl, ?_⟩
 refine XL.step R (Ag (l':= [.d (.sl 13 (((En x2 (plS m.h.m m.h.len) 0 ((plS t n).len)).1).evs.map Ev.c)), .d (.sl 4 (((En x2 (plS m.h.m m.h.len) 0 ((plS t n).len)).1).tups.map Tp.c))]) R R R R Bp R lb (by kernel_rfl))<|za R R<|zn<|zt<|?_
 exact J5 R (by repeat (first|exact GL.z|refine GL.k ?_ rfl|refine GL.f ?_ rfl|refine GL.p ?_ rfl)) (Jv (rs2 R (RV.cells R R R Ax lb R) (RV.tmp R R)) (congrArg S.d (Mo (Asg (by unfold Vo.same;omega) c57i c72i)))) (gz ⟨R,R,R,R,R,R,trivial⟩)
 refine zr<|za R R<|zn<|zs<|?_
 have hrl:=Vm (plS t n).m ((plS t n).off+(plS m.h.m m.h.len).len) ((plS t n).off+(plS t n).len)
 refine Af (by kernel_rfl)<|zp (Ac R R Mt)<|zp (Ae (s':= .d (.agg (Me.c (plS t n).m))) (Aa (Ad R R A7 R lb)) (by kernel_rfl))<|zp (Ac R R Gy)<|zp (Ab R R Ai R R)<|zp (Ac R R Cx)<|zp (Ab R R Ai R R)<|zp (Am R R R (by omega) (by omega))<|zp (Ac R R Gy)<|zp (Ab R R Ai R R)<|?_
 refine zp (Ac R R Cx)<|zp (Ab R R Ai R R)<|zp (Am R R R (by omega) (by omega))<|XL.call1 R R (X3 _ _ _) R<|zm R R<|zp (An R R R)<|zp (An R R R)<|za R R<|za R R<|zng<|zp (Ac R R B2)<|zp (Ab R R De R R)<|zm R R<|XL.step R (Bg R G4 (.own R) (Src.sl (by omega)) (by unfold maxLen;simp;omega) (by simp;omega))<|?_
 refine XL.rowq (i:=7601) (l':=(x2.evs++H7 (plS t n).m ((plS t n).off+(plS m.h.m m.h.len).len) ((plS t n).off+(plS t n).len)).map Ev.c) R (Qx)<|zp (Ac R R B2)<|XL.step R (Ag (l':= [.own 7601, .d (.sl 4 (x2.tups.map Tp.c))]) R R R R Tl R lb (by kernel_rfl))<|zn<|zs<|zr<|zm R R<|zp (As R R R)<|zn<|?_
 refine zd R (fun c72i=> ?_) (fun c72i=> ?_)
 refine zr<|zp (Ae (s':= .d (.agg [.v (.slice none 0 0), .v (.slice none 0 0)])) (Aa (Ao R Cu Bc R)) (by kernel_rfl))<|zm R R<|XL.step R (Ag (l':= [.d (.v (.slice none 0 0)), .d (.v (.slice none 0 0))]) R R R R Bp R lb (by kernel_rfl))<|za R R<|zn<|zt<|?_
 exact J5 R (by repeat (first|exact GL.z|refine GL.k ?_ rfl|refine GL.f ?_ rfl|refine GL.p ?_ rfl)) (Jv (rs2 R (RV.sub (RV.cells R R R Ax lb R) (.agg (.cons (.nil 13) (.cons (.nil 4) (.nil))))) (RV.tmp R R)) (congrArg S.d (Mo (Asf (by unfold Vo.same;omega) c57i c72i)))) (gz ⟨R,R,R,R,R,R,trivial⟩)
 refine zi<|zs<|?_
 have hEc:=Aeq hEv (Vn (plS t n).m ((plS t n).off+(plS m.h.m m.h.len).len) ((plS t n).off+(plS t n).len))
 refine O9 (i:=7601) R<|Dn 5 [] (by kernel_rfl) (by kernel_rfl) (by kernel_rfl) (by kernel_rfl) (by decide)<|yp (Ae (s':= .d (.agg (Vo.c (Lh x2 (plS m.h.m m.h.len) (plS t n))))) (Aa (Ad R R Ax R lb)) (by kernel_rfl))<|yp (Ae (s':= .d (.agg (Vo.c (Lh x2 (plS m.h.m m.h.len) (plS t n))))) (Aa (Ad R R Ax R lb)) (by kernel_rfl))<|?_
 refine yp (Ac R R Cx)<|yp (Ab R R Ai R R)<|ChK.cons R (CStep.call R (Kp _ _ (by assumption)) R)<|?_
 refine ChK.nil ⟨by kernel_rfl, ?_⟩
 refine XL.step R (Ag (l':= [.d (.sl 13 ((Lh x2 (plS m.h.m m.h.len) (plS t n)).evs.map Ev.c)), .d (.sl 4 ((Lh x2 (plS m.h.m m.h.len) (plS t n)).tups.map Tp.c))]) R R R R Bp R lb (by kernel_rfl))<|za R R<|zn<|zt<|?_
 exact J5 R (by repeat (first|exact GL.z|refine GL.k ?_ rfl|refine GL.f ?_ rfl|refine GL.p ?_ rfl)) (Jv (rs2 R (RV.cells R R R Ax lb R) (RV.tmp R R)) (congrArg S.d (Mo (Ase (by unfold Vo.same;omega) c57i c72i)))) (gz ⟨R,R,R,R,R,R,trivial⟩)
 refine ChFK.af R (CStep.pure (Aw R (by conv=>lhs;whnf)))<|?_
 refine ChFK.af R (CStep.pure (An R R R))<|ChFK.fl R (CStep.pure (An R R R)) (CStep.pure (An R R R))<|ChFK.af R (CStep.pure (Ol R R R (R) R Kv (Ahp (Yi hk2a))))<|?_
 refine ChFK.st R (Y8 [] (l':=(mix Vo.u Vo.t ((x0.voices.take j).map (fun v=>(Ei v (plS m.h.m m.h.len) (plS t n)).1)) (x0.voices.drop j)).set j [.d (.sl 13 (((Ei x2 (plS m.h.m m.h.len) (plS t n)).1).evs.map Ev.c)), .d (.sl 4 (((Ei x2 (plS m.h.m m.h.len) (plS t n)).1).tups.map Tp.c))]) R R R (Eq (F6 hx2)) R Bp R lb R R (List.set_set ..) (gz ⟨R,R,R,R,R,R,trivial⟩))<|?_
 refine ChFK.nil ⟨⟨by kernel_rfl,by kernel_rfl,by kernel_rfl⟩, ?_⟩
 refine XL.rowqT (i:=7502) (l':=mix Vo.u Vo.t ((x0.voices.take (j+1)).map (fun v=>(Ei v (plS m.h.m m.h.len) (plS t n)).1)) (x0.voices.drop (j+1))) [] R (Sn hx2) (Qv [] _ _)<|za R R<|znr<|zm R R<|zp (As R R R)<|zn<|?_
 refine zd R (fun c83=> ?_) (fun c83=> ?_)
 refine zr<|?_
 refine zp (Ae (s':= .d (.agg [dI 0,dI 0,dI 0,dI 0,dI 0,dI 0,dI 0,dI 0,dI 0,dI 0,dI 0,dI 0,dB false,dI 0,dI 0,dI 0,dI 0,dI 0,dI 0, .v (.string ⟨#[]⟩), .v (.slice none 0 0), .v (.slice none 0 0)])) (Aa (Ao (r:= [.d (dI 0), .d (dI 0), .d (dI 0), .d (dI 0), .d (dI 0), .d (dI 0), .d (dI 0), .d (dI 0), .d (dI 0), .d (dI 0), .d (dI 0), .d (dI 0), .d (dB false), .d (dI 0), .d (dI 0), .d (dI 0), .d (dI 0), .d (dI 0), .d (dI 0), .d (.v (.string ⟨#[]⟩)), .d (.v (.slice none 0 0)), .d (.v (.slice none 0 0))]) R Cz Bn (by kernel_rfl))) (by kernel_rfl))<|?_
 refine zm R R<|XL.step R (Ag (l':= [.d (dI 0), .d (dI 0), .d (dI 0), .d (dI 0), .d (dI 0), .d (dI 0), .d (dI 0), .d (dI 0), .d (dI 0), .d (dI 0), .d (dI 0), .d (dI 0), .d (dB false), .d (dI 0), .d (dI 0), .d (dI 0), .d (dI 0), .d (dI 0), .d (dI 0), .d (.v (.string ⟨#[]⟩)), .d (.v (.slice none 0 0)), .d (.v (.slice none 0 0))]) R R R R Ed R lb (by kernel_rfl))<|za R R<|zn<|zt<|?_
 exact Az R (RV.sub (RV.cells R R R A1 lb R) (.agg (.cons (.same R) (.cons (.same R) (.cons (.same R) (.cons (.same R) (.cons (.same R) (.cons (.same R) (.cons (.same R) (.cons (.same R) (.cons (.same R) (.cons (.same R) (.cons (.same R) (.cons (.same R) (.cons (.same R) (.cons (.same R) (.cons (.same R) (.cons (.same R) (.cons (.same R) (.cons (.same R) (.cons (.same R) (.cons (.same R) (.cons (.nil 3) (.cons (.nil 2) (.nil))))))))))))))))))))))))) (RV.tmp R R) (U2 (Auv c21 c33 (by first|exact hgo.symm.trans ((Amf hx0 (by rw [←hgv,Y6 hx2 (by omega)];omega)).trans (by rw [←hgv,Y6 hx2 (by omega)]))) (by omega)))
 refine zi<|Af (by kernel_rfl)<|zp (Am R R R (by omega) (by omega))<|zm R R<|zn<|?_
 exact Ap (j+1) (⟨by omega,by rw [←Ame hx2 (by omega)];exact hgv⟩) (by omega) (fz ⟨sr,sr,sr,sr,sr,sr,sr,sr,sr,trivial⟩) (gz ⟨rfl,rfl,rfl,rfl,rfl,rfl,trivial⟩)
 have hk2b:j=x0.voices.length:=by omega
 refine A0<|Ae4 (i:=7502) R (Ape _ _) (by rw [Ar3,hk2b,List.take_length,List.drop_length,List.append_nil])<|?_
 refine Xe (i:=7402) (l':=(mix Ce.u Ce.t ((m.cells.take k).map (Cv (plS m.h.m m.h.len) (plS t n))) (m.cells.drop k)).set k [.own 7501, .d (.sl 2 (((Cv (plS m.h.m m.h.len) (plS t n)) x0).voices.map Vo.c))]) [7501] R (T3 (Ip [] _ _) R) (Hq (Ip [] _ _) (Lg (R) (R)) _)<|Af (by kernel_rfl)<|zp (Aw R (by conv=>lhs;whnf))<|?_
 refine zp (Aw R (by conv=>lhs;whnf))<|?_
 refine zp (H9 R R)<|zp (Ac R R Fw)<|zp (Ae (s':= .own 7501) (I3 R R Kq R (Eq (F6 hx0)) R) R)<|?_
 refine XL.blurT (i:=7402) (k:=k) (m:=0) (l':=(mix Ce.u Ce.t ((m.cells.take k).map (Cv (plS m.h.m m.h.len) (plS t n))) (m.cells.drop k)).set k [.any, .d (.sl 2 (((Cv (plS m.h.m m.h.len) (plS t n)) x0).voices.map Vo.c))]) [] R (Eq (F6 hx0)) R (List.set_set ..) (Hq (Ip [] _ _) (Lg (R) (R)) _)<|zp (Om (pd:= []) (cd:= [_]) R R R)<|?_
 refine XL.inl 900003 [(6, .ptr 6 0 0),(8, .d (.pt (Pl.c (plS m.h.m m.h.len)))),(10, .ptr 10 0 0),(11, .d (.pt (Pl.c (plS t n)))),(47, .d (dI m.cells.length)),(48, .d (dI k)),(87, .ptr 7402 k 0)] R R .d Ac5 Tryz.func64 R R lb (by simp only [List.forall_mem_cons];exact ⟨⟨Nat.le_of_ble_eq_true rfl,rfl⟩,⟨⟨Nat.le_of_ble_eq_true rfl,rfl⟩,⟨⟨Nat.le_of_ble_eq_true rfl,rfl⟩,⟨⟨Nat.le_of_ble_eq_true rfl,rfl⟩,⟨⟨Nat.le_of_ble_eq_true rfl,rfl⟩,⟨⟨Nat.le_of_ble_eq_true rfl,rfl⟩,⟨⟨Nat.le_of_ble_eq_true rfl,rfl⟩,fun p hp=>(by cases hp)⟩⟩⟩⟩⟩⟩⟩) fun u3=>?_
 refine zr<|za R R<|znr<|zp (Aw R (by conv=>lhs;whnf))<|?_
 refine zm R R<|XL.inl 900004 [(0, .own 7501),(1, .d (.fn 65 [] [.pt (Pl.c (plS t n))])),(4, .d (.v (.slice none 0 0)))] R R .d Ack Tryz.func99 R R lb (by simp only [List.forall_mem_cons];exact ⟨⟨Nat.le_of_ble_eq_true rfl,rfl⟩,⟨⟨Nat.le_of_ble_eq_true rfl,rfl⟩,⟨⟨Nat.le_of_ble_eq_true rfl,rfl⟩,fun p hp=>(by cases hp)⟩⟩⟩) fun u4=>zr<|za R R<|zn<|zs<|zr<|?_
 refine zp (Aw R (by conv=>lhs;whnf))<|?_
 refine zp (Ck R R R Tryz.underlying75)<|zm R R<|zn<|Ah<|?_
 refine A6 (α:=Nat) (fun q=>q≤(x0.clefs).length∧((x0.clefs).take q).filter (cfK (plS t n).len)=(x0.clefs).take q) (fun q=>mkF [(0, .own 7501),(1, .d (.fn 65 [] [.pt (Pl.c (plS t n))])),(7, .d (dI x0.clefs.length)),(8, .d (dI q))]) (fun q=>mkH [(6, .box [.d (dI 0), .d (dI 0), .d (dI 0), .d (dI 0), .d (dI 0), .d (dI 0), .d (dI 0), .d (dI 0), .d (dI 0), .d (dI 0), .d (dI 0), .d (dI 0), .d (dB false), .d (dI 0), .d (dI 0), .d (dI 0), .d (dI 0), .d (dI 0), .d (dI 0), .d (.v (.string ⟨#[]⟩)), .d (.v (.slice none 0 0)), .d (.v (.slice none 0 0))]),(10, .box [.d (dI (m.h.sh t n).site), .d (dI (m.h.sh t n).num), .d (dI (m.h.sh t n).m.count), .d (dI (m.h.sh t n).m.unit), .d (dI (m.h.sh t n).m.g0), .d (dI (m.h.sh t n).m.g1), .d (dI (m.h.sh t n).m.g2), .d (dI (m.h.sh t n).m.g3), .d (dI (m.h.sh t n).m.g4), .d (dI (m.h.sh t n).m.g5), .d (dI (m.h.sh t n).len), .d (dI (m.h.sh t n).fifths), .d (dB (m.h.sh t n).start), .d (dI (m.h.sh t n).fin), .d (dI (m.h.sh t n).ends), .d (dI (m.h.sh t n).jump), .d (dI (m.h.sh t n).labels), .d (dI (m.h.sh t n).swing), .d (dI (m.h.sh t n).brk), .d (.v (.string ⟨(m.h.sh t n).reh.toArray⟩)), .own 7401, .own 7402]),(7401, .row 119 3 ((m.tempi).map Tm.c)),(7402, .tree 78 2 [] ((mix Ce.u Ce.t ((m.cells.take k).map (Cv (plS m.h.m m.h.len) (plS t n))) (m.cells.drop k)).set k [.any, .d (.sl 2 (((Cv (plS m.h.m m.h.len) (plS t n)) x0).voices.map Vo.c))])),(7501, .row 84 2 ((x0.clefs).map Cf.c)),(900003, .ghost u3 [(6, .ptr 6 0 0),(8, .d (.pt (Pl.c (plS m.h.m m.h.len)))),(10, .ptr 10 0 0),(11, .d (.pt (Pl.c (plS t n)))),(47, .d (dI m.cells.length)),(48, .d (dI k)),(87, .ptr 7402 k 0)]),(900004, .ghost u4 [(0, .own 7501),(1, .d (.fn 65 [] [.pt (Pl.c (plS t n))])),(4, .d (.v (.slice none 0 0)))])]) (fun q=>(x0.clefs).length - q) (0) (⟨Nat.zero_le _,R⟩) ?_ ?_ ?_
 exact fz ⟨sr,sr,sr,sr,trivial⟩
 exact gz ⟨R,R,R,R,R,R,R,trivial⟩
 intro q hk0x
 obtain ⟨hk,hfk⟩:=hk0x
 refine zr<|zp (Ar R R R)<|zn<|zs<|?_
 refine zd R (fun c9x=> ?_) (fun c9x=> ?_)
 obtain ⟨y,hy⟩:∃y,(x0.clefs)[q]? =some y:=A3 (by omega)
 refine zi<|zs<|Ah<|zr<|zm R R<|za R R<|znr<|zm R R<|zp (Aw R (by conv=>lhs;whnf))<|?_
 refine zm R R<|zp (Dd R R R (R) R Jc (by omega))<|zp (Ae (s':= .d (.agg (Cf.c y))) (Et R R Ob R (Dw (hy)) lb) (by kernel_rfl))<|XL.callv1 (ds:= [_]) R R R (Aem _ _) R<|zn<|?_
 refine zd R (fun c16x=> ?_) (fun c16x=> ?_)
 refine zr<|zm R R<|za R R<|zn<|zt<|?_
 refine (D4 (l:= [(0, .own 7501),(1, .d (.fn 65 [] [.pt (Pl.c (plS t n))])),(4, .d (.v (.slice none 0 0)))]) (by kernel_rfl) (rs1 R (RV.tmp R R)) ?_).2
 refine za R R<|zn<|zs<|zr<|zm R R<|zp (A8 R R R)<|zn<|?_
 refine zd R (fun c12d=> ?_) (fun c12d=> ?_)
 exfalso;omega
 refine zi<|zs<|zr<|zm R R<|zp (Am R R R (by omega) (by omega))<|za R R<|zn<|Ah<|?_
 refine A6 (α:=Nat × Nat × List Cf) (fun p=>DelG (cfK (plS t n).len) (x0.clefs) p.1 p.2.1 p.2.2) (fun p=>mkF [(0, .own 7501),(1, .d (.fn 65 [] [.pt (Pl.c (plS t n))])),(4, .d (.v (.slice none 0 0))),(5, .d (dI p.2.1)),(6, .d (dI p.1))]) (fun p=>mkH [(6, .box [.d (dI 0), .d (dI 0), .d (dI 0), .d (dI 0), .d (dI 0), .d (dI 0), .d (dI 0), .d (dI 0), .d (dI 0), .d (dI 0), .d (dI 0), .d (dI 0), .d (dB false), .d (dI 0), .d (dI 0), .d (dI 0), .d (dI 0), .d (dI 0), .d (dI 0), .d (.v (.string ⟨#[]⟩)), .d (.v (.slice none 0 0)), .d (.v (.slice none 0 0))]),(10, .box [.d (dI (m.h.sh t n).site), .d (dI (m.h.sh t n).num), .d (dI (m.h.sh t n).m.count), .d (dI (m.h.sh t n).m.unit), .d (dI (m.h.sh t n).m.g0), .d (dI (m.h.sh t n).m.g1), .d (dI (m.h.sh t n).m.g2), .d (dI (m.h.sh t n).m.g3), .d (dI (m.h.sh t n).m.g4), .d (dI (m.h.sh t n).m.g5), .d (dI (m.h.sh t n).len), .d (dI (m.h.sh t n).fifths), .d (dB (m.h.sh t n).start), .d (dI (m.h.sh t n).fin), .d (dI (m.h.sh t n).ends), .d (dI (m.h.sh t n).jump), .d (dI (m.h.sh t n).labels), .d (dI (m.h.sh t n).swing), .d (dI (m.h.sh t n).brk), .d (.v (.string ⟨(m.h.sh t n).reh.toArray⟩)), .own 7401, .own 7402]),(7401, .row 119 3 ((m.tempi).map Tm.c)),(7402, .tree 78 2 [] ((mix Ce.u Ce.t ((m.cells.take k).map (Cv (plS m.h.m m.h.len) (plS t n))) (m.cells.drop k)).set k [.any, .d (.sl 2 (((Cv (plS m.h.m m.h.len) (plS t n)) x0).voices.map Vo.c))])),(7501, .row 84 2 (p.2.2.map Cf.c)),(900003, .ghost u3 [(6, .ptr 6 0 0),(8, .d (.pt (Pl.c (plS m.h.m m.h.len)))),(10, .ptr 10 0 0),(11, .d (.pt (Pl.c (plS t n)))),(47, .d (dI m.cells.length)),(48, .d (dI k)),(87, .ptr 7402 k 0)])]) (fun p=>(x0.clefs).length - p.1) ((q+1,q,x0.clefs)) (DelG.start hy (Aj2 c16x) hfk) ?_ ?_ ?_
 exact fz ⟨sr,sr,sr,sr,sr,trivial⟩
 exact gz ⟨R,R,R,R,R,R,trivial⟩
 intro p hk0d
 have hD:=hk0d
 have hlt:=hD.lt
 have hle:=hD.le
 have hlen:=hD.len
 refine zs<|zr<|zm R R<|zp (Aw R (by conv=>lhs;whnf))<|?_
 refine zp (Ck R R R Tryz.underlying75)<|zp (Ar R R R)<|zn<|?_
 refine zd R (fun c19d=> ?_) (fun c19d=> ?_)
 obtain ⟨z,hz⟩:∃z,(x0.clefs)[p.1]? =some z:=A3 (by omega)
 obtain ⟨w,hw⟩:∃w,p.2.2[p.2.1]? =some w:=A3 (by omega)
 refine zi<|zs<|Ah<|zr<|zp (Aw R (by conv=>lhs;whnf))<|?_
 refine zm R R<|zp (Dd R R R (R) R Jc (by have:=hD.len;omega))<|zp (Ae (s':= .d (.agg (Cf.c z))) (Et R R Ob R (Dw (hD.get hz)) lb) (by kernel_rfl))<|XL.step R (Al 3007 (l:= [.d (dI 0), .d (dI 0)]) R Ul (by kernel_rfl))<|XL.step R (Ag (l':= [.d (dI z.tk), .d (dI z.clef)]) R R R R Afg R lb (by kernel_rfl))<|znr<|zm R R<|?_
 refine zp (Ae (s':= .d (.agg (Cf.c z))) (Aa (Ad R R Ob R lb)) (by kernel_rfl))<|XL.callv1 (ds:= [_]) R R R (Aem _ _) R<|zp (Ey R R)<|zn<|?_
 refine zd R (fun c29d=> ?_) (fun c29d=> ?_)
 refine zr<|zp (Aw R (by conv=>lhs;whnf))<|?_
 refine zm R R<|zp (Ae (s':= .d (.agg (Cf.c z))) (Aa (Ad R R Ob R lb)) (by kernel_rfl))<|zp (Dd R R R (R) R Jc (by have:=hD.lt;have:=hD.len;omega))<|XL.step R (F4 R R R (Dw hw) R R Afg R lb)<|zng<|zm R R<|zp (Am R R R (by omega) (by omega))<|za R R<|zn<|Af (by kernel_rfl)<|zm R R<|zp (Am R R R (by omega) (by omega))<|za R R<|zn<|?_
 exact Ap ((p.1+1,p.2.1+1,p.2.2.set p.2.1 z)) (hD.put hz (Aez c29d)) (by show (x0.clefs).length - (p.1+1)<(x0.clefs).length - p.1;omega) (fz ⟨sr,sr,sr,sr,sr,trivial⟩) (gz ⟨R,R,R,R,Sd R R,R,trivial⟩)
 refine zi<|Af (by kernel_rfl)<|zm R R<|zp (Am R R R (by omega) (by omega))<|za R R<|zn<|?_
 exact Ap ((p.1+1,p.2.1,p.2.2)) (hD.keep hz (Aj2 (Decidable.not_not.1 c29d))) (by show (x0.clefs).length - (p.1+1)<(x0.clefs).length - p.1;omega) (fz ⟨sr,sr,sr,sr,sr,trivial⟩) (gz ⟨R,R,R,R,R,R,trivial⟩)
 have hfin:=hD.fin (by omega)
 refine A0<|zr<|zp (Aw R (by conv=>lhs;whnf))<|?_
 refine zm R R<|zp (Pr R R R Jc (Bd.at R) Bd.no (by rw [List.length_map];have:=hD.lt;have:=hD.le;have:=hD.len;omega) (Nat.le_refl _))<|XL.step R (Sb (l2:=(p.2.2.take p.2.1++List.replicate (p.2.2.length - p.2.1) (⟨0,0⟩:Cf)).map Cf.c) (zs:= [dI 0,dI 0]) R (.sub R) Tryz.underlying75 Ul (by kernel_rfl) (by kernel_rfl) (by decide) (by omega) (hD.clr R))<|znr<|?_
 refine zp (Aw R (by conv=>lhs;whnf))<|?_
 refine zm R R<|XL.step R (N2 R R R Jc (.at R) (by rw [List.length_map,List.length_append,List.length_take,List.length_replicate];have:=hD.lt;have:=hD.le;have:=hD.len;omega))<|zp (Ay R (by conv=>lhs;whnf))<|?_
 refine zn<|zt<|?_
 refine (D4 (l:= [(6, .ptr 6 0 0),(8, .d (.pt (Pl.c (plS m.h.m m.h.len)))),(10, .ptr 10 0 0),(11, .d (.pt (Pl.c (plS t n)))),(47, .d (dI m.cells.length)),(48, .d (dI k)),(87, .ptr 7402 k 0)]) (by kernel_rfl) (Dg R (RVS.tmp R R)) ?_).2
 refine zp (H9 R R)<|zp (Ac R R Fw)<|XL.step R (La [7501] (l':=(mix Ce.u Ce.t ((m.cells.take k).map (Cv (plS m.h.m m.h.len) (plS t n))) (m.cells.drop k)).set k [.own 7501, .d (.sl 2 (((Cv (plS m.h.m m.h.len) (plS t n)) x0).voices.map Vo.c))]) R R R (Eq (F6 hx0)) R Ane R lb R R (List.set_set ..))<|zn<|Af (by kernel_rfl)<|?_
 refine XL.rowq (i:=7501) (l':=(((Cv (plS m.h.m m.h.len) (plS t n)) x0).clefs).map Cf.c) R (by first|exact hD.cut.trans (congrArg (List.map Cf.c) hfin)|exact congrArg (List.map Cf.c) hfx.symm)<|XL.freeze (i:=7501) R<|?_
 refine XL.rowqT (i:=7402) (l':=(mix Ce.u Ce.t ((m.cells.take k).map (Cv (plS m.h.m m.h.len) (plS t n))) (m.cells.drop k)).set k [.d (.sl 2 ((((Cv (plS m.h.m m.h.len) (plS t n)) x0).clefs).map Cf.c)), .d (.sl 2 (((Cv (plS m.h.m m.h.len) (plS t n)) x0).voices.map Vo.c))]) [] R (T3 (Ip [] _ _) R) (Hq (Ip [] _ _) (Lg (R) (R)) _)<|?_
 refine XL.rowqT (i:=7402) (l':=mix Ce.u Ce.t ((m.cells.take (k+1)).map (Cv (plS m.h.m m.h.len) (plS t n))) (m.cells.drop (k+1))) [] R (Sn hx0) (Ip [] _ _)<|zp (Am R R R (by omega) (by omega))<|zm R R<|zn<|?_
 exact Ap (k+1) (⟨by omega,by rw [←Y7 hx0 (by rw [←hgv,hk2b,List.drop_length];rfl)];exact hgo⟩) (by omega) (fz ⟨sr,sr,sr,sr,sr,sr,trivial⟩) (gz ⟨rfl,rfl,rfl,rfl,trivial⟩)
 refine zi<|Af (by kernel_rfl)<|zp (Am R R R (by omega) (by omega))<|zm R R<|zn<|?_
 exact Ap (q+1) (⟨by omega,by rw [S5 hy (Aez c16x),hfk, ←B1 hy]⟩) (by omega) (fz ⟨sr,sr,sr,sr,trivial⟩) (gz ⟨rfl,rfl,rfl,rfl,rfl,rfl,rfl,trivial⟩)
 have hfx:(x0.clefs).filter (cfK (plS t n).len)=x0.clefs:=by rw [show q=(x0.clefs).length by omega,List.take_length] at hfk;exact hfk
 refine A0<|zr<|za R R<|zn<|zt<|?_
 refine (D4 (l:= [(0, .own 7501),(1, .d (.fn 65 [] [.pt (Pl.c (plS t n))])),(4, .d (.v (.slice none 0 0)))]) (by kernel_rfl) (rs1 R (RV.tmp R R)) ?_).2
 refine za R R<|zn<|zs<|zr<|zm R R<|zp (Cd (A8 R R R) (by decide))<|zn<|Au (by kernel_rfl) R<|zr<|zp (Aw R (by conv=>lhs;whnf))<|?_
 refine zp (Ay R (by conv=>lhs;whnf))<|?_
 refine zn<|zt<|?_
 refine (D4 (l:= [(6, .ptr 6 0 0),(8, .d (.pt (Pl.c (plS m.h.m m.h.len)))),(10, .ptr 10 0 0),(11, .d (.pt (Pl.c (plS t n)))),(47, .d (dI m.cells.length)),(48, .d (dI k)),(87, .ptr 7402 k 0)]) (by kernel_rfl) (Dg R (RVS.tmp R R)) ?_).2
 refine zp (H9 R R)<|zp (Ac R R Fw)<|XL.step R (La [7501] (l':=(mix Ce.u Ce.t ((m.cells.take k).map (Cv (plS m.h.m m.h.len) (plS t n))) (m.cells.drop k)).set k [.own 7501, .d (.sl 2 (((Cv (plS m.h.m m.h.len) (plS t n)) x0).voices.map Vo.c))]) R R R (Eq (F6 hx0)) R Ane R lb R R (List.set_set ..))<|zn<|Af (by kernel_rfl)<|?_
 refine XL.rowq (i:=7501) (l':=(((Cv (plS m.h.m m.h.len) (plS t n)) x0).clefs).map Cf.c) R (by first|exact hD.cut.trans (congrArg (List.map Cf.c) hfin)|exact congrArg (List.map Cf.c) hfx.symm)<|XL.freeze (i:=7501) R<|?_
 refine XL.rowqT (i:=7402) (l':=(mix Ce.u Ce.t ((m.cells.take k).map (Cv (plS m.h.m m.h.len) (plS t n))) (m.cells.drop k)).set k [.d (.sl 2 ((((Cv (plS m.h.m m.h.len) (plS t n)) x0).clefs).map Cf.c)), .d (.sl 2 (((Cv (plS m.h.m m.h.len) (plS t n)) x0).voices.map Vo.c))]) [] R (T3 (Ip [] _ _) R) (Hq (Ip [] _ _) (Lg (R) (R)) _)<|?_
 refine XL.rowqT (i:=7402) (l':=mix Ce.u Ce.t ((m.cells.take (k+1)).map (Cv (plS m.h.m m.h.len) (plS t n))) (m.cells.drop (k+1))) [] R (Sn hx0) (Ip [] _ _)<|zp (Am R R R (by omega) (by omega))<|zm R R<|zn<|?_
 exact Ap (k+1) (⟨by omega,by rw [←Y7 hx0 (by rw [←hgv,hk2b,List.drop_length];rfl)];exact hgo⟩) (by omega) (fz ⟨sr,sr,sr,sr,sr,sr,trivial⟩) (gz ⟨rfl,rfl,rfl,rfl,trivial⟩)
 have hk0b:k=m.cells.length:=by omega
 refine A0<|zr<|zp (Ac R R Gm)<|zp (Ab R R Qp R R)<|zp (Om (pd:= []) (cd:= [_]) R R R)<|XL.inl 900005 [(6, .ptr 6 0 0),(10, .ptr 10 0 0)] R R .d Ac3 Tryz.func66 R R lb (by simp only [List.forall_mem_cons];exact ⟨⟨Nat.le_of_ble_eq_true rfl,rfl⟩,⟨⟨Nat.le_of_ble_eq_true rfl,rfl⟩,fun p hp=>(by cases hp)⟩⟩) fun u5=>zr<|za R R<|znr<|?_
 refine zp (Aw R (by conv=>lhs;whnf))<|?_
 refine zm R R<|XL.inl 900006 [(0, .own 7401),(1, .d (.fn 67 [] [.pt (Pl.c (plS t n))])),(4, .d (.v (.slice none 0 0)))] R R .d Abw Tryz.func100 R R lb (by simp only [List.forall_mem_cons];exact ⟨⟨Nat.le_of_ble_eq_true rfl,rfl⟩,⟨⟨Nat.le_of_ble_eq_true rfl,rfl⟩,⟨⟨Nat.le_of_ble_eq_true rfl,rfl⟩,fun p hp=>(by cases hp)⟩⟩⟩) fun u6=>zr<|za R R<|zn<|zs<|zr<|?_
 refine zp (Aw R (by conv=>lhs;whnf))<|?_
 refine zp (Ck R R R Tryz.underlying27)<|zm R R<|zn<|Ah<|?_
 refine A6 (α:=Nat) (fun q=>q≤(m.tempi).length∧((m.tempi).take q).filter (tmK (plS t n).len)=(m.tempi).take q) (fun q=>mkF [(0, .own 7401),(1, .d (.fn 67 [] [.pt (Pl.c (plS t n))])),(7, .d (dI m.tempi.length)),(8, .d (dI q))]) (fun q=>mkH [(6, .box [.d (dI 0), .d (dI 0), .d (dI 0), .d (dI 0), .d (dI 0), .d (dI 0), .d (dI 0), .d (dI 0), .d (dI 0), .d (dI 0), .d (dI 0), .d (dI 0), .d (dB false), .d (dI 0), .d (dI 0), .d (dI 0), .d (dI 0), .d (dI 0), .d (dI 0), .d (.v (.string ⟨#[]⟩)), .d (.v (.slice none 0 0)), .d (.v (.slice none 0 0))]),(10, .box [.d (dI (m.h.sh t n).site), .d (dI (m.h.sh t n).num), .d (dI (m.h.sh t n).m.count), .d (dI (m.h.sh t n).m.unit), .d (dI (m.h.sh t n).m.g0), .d (dI (m.h.sh t n).m.g1), .d (dI (m.h.sh t n).m.g2), .d (dI (m.h.sh t n).m.g3), .d (dI (m.h.sh t n).m.g4), .d (dI (m.h.sh t n).m.g5), .d (dI (m.h.sh t n).len), .d (dI (m.h.sh t n).fifths), .d (dB (m.h.sh t n).start), .d (dI (m.h.sh t n).fin), .d (dI (m.h.sh t n).ends), .d (dI (m.h.sh t n).jump), .d (dI (m.h.sh t n).labels), .d (dI (m.h.sh t n).swing), .d (dI (m.h.sh t n).brk), .d (.v (.string ⟨(m.h.sh t n).reh.toArray⟩)), .own 7401, .own 7402]),(7401, .row 119 3 ((m.tempi).map Tm.c)),(7402, .tree 78 2 [] (mix Ce.u Ce.t ((m.cells.take k).map (Cv (plS m.h.m m.h.len) (plS t n))) (m.cells.drop k))),(900005, .ghost u5 [(6, .ptr 6 0 0),(10, .ptr 10 0 0)]),(900006, .ghost u6 [(0, .own 7401),(1, .d (.fn 67 [] [.pt (Pl.c (plS t n))])),(4, .d (.v (.slice none 0 0)))])]) (fun q=>(m.tempi).length - q) (0) (⟨Nat.zero_le _,R⟩) ?_ ?_ ?_
 exact fz ⟨sr,sr,sr,sr,trivial⟩
 exact gz ⟨R,R,R,R,R,R,trivial⟩
 intro q hk0x
 obtain ⟨hk,hfk⟩:=hk0x
 refine zr<|zp (Ar R R R)<|zn<|zs<|?_
 refine zd R (fun c9x=> ?_) (fun c9x=> ?_)
 obtain ⟨y,hy⟩:∃y,(m.tempi)[q]? =some y:=A3 (by omega)
 refine zi<|zs<|Ah<|zr<|zm R R<|za R R<|znr<|zm R R<|zp (Aw R (by conv=>lhs;whnf))<|?_
 refine zm R R<|zp (Dd R R R (R) R O1 (by omega))<|zp (Ae (s':= .d (.agg (Tm.c y))) (Et R R L6 R (Dw (hy)) lb) (by kernel_rfl))<|XL.callv1 (ds:= [_]) R R R (Ael _ _) R<|zn<|?_
 refine zd R (fun c16x=> ?_) (fun c16x=> ?_)
 refine zr<|zm R R<|za R R<|zn<|zt<|?_
 refine (D4 (l:= [(0, .own 7401),(1, .d (.fn 67 [] [.pt (Pl.c (plS t n))])),(4, .d (.v (.slice none 0 0)))]) (by kernel_rfl) (rs1 R (RV.tmp R R)) ?_).2
 refine za R R<|zn<|zs<|zr<|zm R R<|zp (A8 R R R)<|zn<|?_
 refine zd R (fun c12d=> ?_) (fun c12d=> ?_)
 exfalso;omega
 refine zi<|zs<|zr<|zm R R<|zp (Am R R R (by omega) (by omega))<|za R R<|zn<|Ah<|?_
 refine A6 (α:=Nat × Nat × List Tm) (fun p=>DelG (tmK (plS t n).len) (m.tempi) p.1 p.2.1 p.2.2) (fun p=>mkF [(0, .own 7401),(1, .d (.fn 67 [] [.pt (Pl.c (plS t n))])),(4, .d (.v (.slice none 0 0))),(5, .d (dI p.2.1)),(6, .d (dI p.1))]) (fun p=>mkH [(6, .box [.d (dI 0), .d (dI 0), .d (dI 0), .d (dI 0), .d (dI 0), .d (dI 0), .d (dI 0), .d (dI 0), .d (dI 0), .d (dI 0), .d (dI 0), .d (dI 0), .d (dB false), .d (dI 0), .d (dI 0), .d (dI 0), .d (dI 0), .d (dI 0), .d (dI 0), .d (.v (.string ⟨#[]⟩)), .d (.v (.slice none 0 0)), .d (.v (.slice none 0 0))]),(10, .box [.d (dI (m.h.sh t n).site), .d (dI (m.h.sh t n).num), .d (dI (m.h.sh t n).m.count), .d (dI (m.h.sh t n).m.unit), .d (dI (m.h.sh t n).m.g0), .d (dI (m.h.sh t n).m.g1), .d (dI (m.h.sh t n).m.g2), .d (dI (m.h.sh t n).m.g3), .d (dI (m.h.sh t n).m.g4), .d (dI (m.h.sh t n).m.g5), .d (dI (m.h.sh t n).len), .d (dI (m.h.sh t n).fifths), .d (dB (m.h.sh t n).start), .d (dI (m.h.sh t n).fin), .d (dI (m.h.sh t n).ends), .d (dI (m.h.sh t n).jump), .d (dI (m.h.sh t n).labels), .d (dI (m.h.sh t n).swing), .d (dI (m.h.sh t n).brk), .d (.v (.string ⟨(m.h.sh t n).reh.toArray⟩)), .own 7401, .own 7402]),(7401, .row 119 3 (p.2.2.map Tm.c)),(7402, .tree 78 2 [] (mix Ce.u Ce.t ((m.cells.take k).map (Cv (plS m.h.m m.h.len) (plS t n))) (m.cells.drop k))),(900005, .ghost u5 [(6, .ptr 6 0 0),(10, .ptr 10 0 0)])]) (fun p=>(m.tempi).length - p.1) ((q+1,q,m.tempi)) (DelG.start hy (Ahc c16x) hfk) ?_ ?_ ?_
 exact fz ⟨sr,sr,sr,sr,sr,trivial⟩
 exact gz ⟨R,R,R,R,R,trivial⟩
 intro p hk0d
 have hD:=hk0d
 have hlt:=hD.lt
 have hle:=hD.le
 have hlen:=hD.len
 refine zs<|zr<|zm R R<|zp (Aw R (by conv=>lhs;whnf))<|?_
 refine zp (Ck R R R Tryz.underlying27)<|zp (Ar R R R)<|zn<|?_
 refine zd R (fun c19d=> ?_) (fun c19d=> ?_)
 obtain ⟨z,hz⟩:∃z,(m.tempi)[p.1]? =some z:=A3 (by omega)
 obtain ⟨w,hw⟩:∃w,p.2.2[p.2.1]? =some w:=A3 (by omega)
 refine zi<|zs<|Ah<|zr<|zp (Aw R (by conv=>lhs;whnf))<|?_
 refine zm R R<|zp (Dd R R R (R) R O1 (by have:=hD.len;omega))<|zp (Ae (s':= .d (.agg (Tm.c z))) (Et R R L6 R (Dw (hD.get hz)) lb) (by kernel_rfl))<|XL.step R (Al 5007 (l:= [.d (dI 0), .d (dI 0), .d (dB false)]) R R8 (by kernel_rfl))<|XL.step R (Ag (l':= [.d (dI z.tk), .d (dI z.micros), .d (dB z.ramp)]) R R R R Xo R lb (by kernel_rfl))<|?_
 refine znr<|zm R R<|zp (Ae (s':= .d (.agg (Tm.c z))) (Aa (Ad R R L6 R lb)) (by kernel_rfl))<|XL.callv1 (ds:= [_]) R R R (Ael _ _) R<|zp (Ey R R)<|zn<|?_
 refine zd R (fun c29d=> ?_) (fun c29d=> ?_)
 refine zr<|zp (Aw R (by conv=>lhs;whnf))<|?_
 refine zm R R<|zp (Ae (s':= .d (.agg (Tm.c z))) (Aa (Ad R R L6 R lb)) (by kernel_rfl))<|zp (Dd R R R (R) R O1 (by have:=hD.lt;have:=hD.len;omega))<|XL.step R (F4 R R R (Dw hw) R R Xo R lb)<|zng<|zm R R<|zp (Am R R R (by omega) (by omega))<|za R R<|zn<|Af (by kernel_rfl)<|zm R R<|zp (Am R R R (by omega) (by omega))<|za R R<|zn<|?_
 exact Ap ((p.1+1,p.2.1+1,p.2.2.set p.2.1 z)) (hD.put hz (Adx c29d)) (by show (m.tempi).length - (p.1+1)<(m.tempi).length - p.1;omega) (fz ⟨sr,sr,sr,sr,sr,trivial⟩) (gz ⟨R,R,Sd R R,R,R,trivial⟩)
 refine zi<|Af (by kernel_rfl)<|zm R R<|zp (Am R R R (by omega) (by omega))<|za R R<|zn<|?_
 exact Ap ((p.1+1,p.2.1,p.2.2)) (hD.keep hz (Ahc (Decidable.not_not.1 c29d))) (by show (m.tempi).length - (p.1+1)<(m.tempi).length - p.1;omega) (fz ⟨sr,sr,sr,sr,sr,trivial⟩) (gz ⟨R,R,R,R,R,trivial⟩)
 have hfin:=hD.fin (by omega)
 refine A0<|zr<|zp (Aw R (by conv=>lhs;whnf))<|?_
 refine zm R R<|zp (Pr R R R O1 (Bd.at R) Bd.no (by rw [List.length_map];have:=hD.lt;have:=hD.le;have:=hD.len;omega) (Nat.le_refl _))<|XL.step R (Sb (l2:=(p.2.2.take p.2.1++List.replicate (p.2.2.length - p.2.1) (⟨0,0,false⟩:Tm)).map Tm.c) (zs:= [dI 0,dI 0,dB false]) R (.sub R) Tryz.underlying27 R8 (by kernel_rfl) (by kernel_rfl) (by decide) (by omega) (hD.clr R))<|?_
 refine znr<|zp (Aw R (by conv=>lhs;whnf))<|?_
 refine zm R R<|XL.step R (N2 R R R O1 (.at R) (by rw [List.length_map,List.length_append,List.length_take,List.length_replicate];have:=hD.lt;have:=hD.le;have:=hD.len;omega))<|zp (Ay R (by conv=>lhs;whnf))<|?_
 refine zn<|zt<|?_
 refine (D4 (l:= [(6, .ptr 6 0 0),(10, .ptr 10 0 0)]) (by kernel_rfl) (Dg R (RVS.tmp R R)) ?_).2
 refine zp (Ac R R Gm)<|?_
 refine XL.step R (Ag (l':= [.d (dI (m.h.sh t n).site), .d (dI (m.h.sh t n).num), .d (dI (m.h.sh t n).m.count), .d (dI (m.h.sh t n).m.unit), .d (dI (m.h.sh t n).m.g0), .d (dI (m.h.sh t n).m.g1), .d (dI (m.h.sh t n).m.g2), .d (dI (m.h.sh t n).m.g3), .d (dI (m.h.sh t n).m.g4), .d (dI (m.h.sh t n).m.g5), .d (dI (m.h.sh t n).len), .d (dI (m.h.sh t n).fifths), .d (dB (m.h.sh t n).start), .d (dI (m.h.sh t n).fin), .d (dI (m.h.sh t n).ends), .d (dI (m.h.sh t n).jump), .d (dI (m.h.sh t n).labels), .d (dI (m.h.sh t n).swing), .d (dI (m.h.sh t n).brk), .d (.v (.string ⟨(m.h.sh t n).reh.toArray⟩)), .own 7401, .own 7402]) R R R R Afi R lb (by kernel_rfl))<|?_
 refine znr<|XL.rowq (i:=7401) (l':=(m.tempi.filter (tmK (plS t n).len)).map Tm.c) R (by first|exact hD.cut.trans (congrArg (List.map Tm.c) hfin)|exact congrArg (List.map Tm.c) hfx.symm)<|XL.freeze (i:=7401) R<|XL.freezeT (i:=7402) R (Aef _ _) (by rw [Ail,hk0b,List.take_length,List.drop_length,List.append_nil])<|?_
 refine zp (Ae (s':= .d (.agg [dI (m.h.sh t n).site,dI (m.h.sh t n).num,dI (m.h.sh t n).m.count,dI (m.h.sh t n).m.unit,dI (m.h.sh t n).m.g0,dI (m.h.sh t n).m.g1,dI (m.h.sh t n).m.g2,dI (m.h.sh t n).m.g3,dI (m.h.sh t n).m.g4,dI (m.h.sh t n).m.g5,dI (m.h.sh t n).len,dI (m.h.sh t n).fifths,dB (m.h.sh t n).start,dI (m.h.sh t n).fin,dI (m.h.sh t n).ends,dI (m.h.sh t n).jump,dI (m.h.sh t n).labels,dI (m.h.sh t n).swing,dI (m.h.sh t n).brk, .v (.string ⟨(m.h.sh t n).reh.toArray⟩), .sl 3 ((m.tempi.filter (tmK (plS t n).len)).map Tm.c), .sl 2 ((m.cells.map (Cv (plS m.h.m m.h.len) (plS t n))).map Ce.c)])) (Aa (Ad R R A1 R lb)) (by kernel_rfl))<|?_
 refine XL.step R (Ag (l':= [.d (dI (m.h.sh t n).site), .d (dI (m.h.sh t n).num), .d (dI (m.h.sh t n).m.count), .d (dI (m.h.sh t n).m.unit), .d (dI (m.h.sh t n).m.g0), .d (dI (m.h.sh t n).m.g1), .d (dI (m.h.sh t n).m.g2), .d (dI (m.h.sh t n).m.g3), .d (dI (m.h.sh t n).m.g4), .d (dI (m.h.sh t n).m.g5), .d (dI (m.h.sh t n).len), .d (dI (m.h.sh t n).fifths), .d (dB (m.h.sh t n).start), .d (dI (m.h.sh t n).fin), .d (dI (m.h.sh t n).ends), .d (dI (m.h.sh t n).jump), .d (dI (m.h.sh t n).labels), .d (dI (m.h.sh t n).swing), .d (dI (m.h.sh t n).brk), .d (.v (.string ⟨(m.h.sh t n).reh.toArray⟩)), .d (.sl 3 ((m.tempi.filter (tmK (plS t n).len)).map Tm.c)), .d (.sl 2 ((m.cells.map (Cv (plS m.h.m m.h.len) (plS t n))).map Ce.c))]) R R R R Ed R lb (by kernel_rfl))<|?_
 refine za R R<|zn<|zt<|?_
 exact Az R (RV.cells R R R A1 lb R) (RV.tmp R R) (U2 (Asi c21 c33 (by rw [←hgo,hk0b,List.drop_length];rfl)))
 refine zi<|Af (by kernel_rfl)<|zp (Am R R R (by omega) (by omega))<|zm R R<|zn<|?_
 exact Ap (q+1) (⟨by omega,by rw [S5 hy (Adx c16x),hfk, ←B1 hy]⟩) (by omega) (fz ⟨sr,sr,sr,sr,trivial⟩) (gz ⟨rfl,rfl,rfl,rfl,rfl,rfl,trivial⟩)
 have hfx:(m.tempi).filter (tmK (plS t n).len)=m.tempi:=by rw [show q=(m.tempi).length by omega,List.take_length] at hfk;exact hfk
 refine A0<|zr<|za R R<|zn<|zt<|?_
 refine (D4 (l:= [(0, .own 7401),(1, .d (.fn 67 [] [.pt (Pl.c (plS t n))])),(4, .d (.v (.slice none 0 0)))]) (by kernel_rfl) (rs1 R (RV.tmp R R)) ?_).2
 refine za R R<|zn<|zs<|zr<|zm R R<|zp (Cd (A8 R R R) (by decide))<|zn<|Au (by kernel_rfl) R<|zr<|zp (Aw R (by conv=>lhs;whnf))<|?_
 refine zp (Ay R (by conv=>lhs;whnf))<|?_
 refine zn<|zt<|?_
 refine (D4 (l:= [(6, .ptr 6 0 0),(10, .ptr 10 0 0)]) (by kernel_rfl) (Dg R (RVS.tmp R R)) ?_).2
 refine zp (Ac R R Gm)<|?_
 refine XL.step R (Ag (l':= [.d (dI (m.h.sh t n).site), .d (dI (m.h.sh t n).num), .d (dI (m.h.sh t n).m.count), .d (dI (m.h.sh t n).m.unit), .d (dI (m.h.sh t n).m.g0), .d (dI (m.h.sh t n).m.g1), .d (dI (m.h.sh t n).m.g2), .d (dI (m.h.sh t n).m.g3), .d (dI (m.h.sh t n).m.g4), .d (dI (m.h.sh t n).m.g5), .d (dI (m.h.sh t n).len), .d (dI (m.h.sh t n).fifths), .d (dB (m.h.sh t n).start), .d (dI (m.h.sh t n).fin), .d (dI (m.h.sh t n).ends), .d (dI (m.h.sh t n).jump), .d (dI (m.h.sh t n).labels), .d (dI (m.h.sh t n).swing), .d (dI (m.h.sh t n).brk), .d (.v (.string ⟨(m.h.sh t n).reh.toArray⟩)), .own 7401, .own 7402]) R R R R Afi R lb (by kernel_rfl))<|?_
 refine znr<|XL.rowq (i:=7401) (l':=(m.tempi.filter (tmK (plS t n).len)).map Tm.c) R (by first|exact hD.cut.trans (congrArg (List.map Tm.c) hfin)|exact congrArg (List.map Tm.c) hfx.symm)<|XL.freeze (i:=7401) R<|XL.freezeT (i:=7402) R (Aef _ _) (by rw [Ail,hk0b,List.take_length,List.drop_length,List.append_nil])<|?_
 refine zp (Ae (s':= .d (.agg [dI (m.h.sh t n).site,dI (m.h.sh t n).num,dI (m.h.sh t n).m.count,dI (m.h.sh t n).m.unit,dI (m.h.sh t n).m.g0,dI (m.h.sh t n).m.g1,dI (m.h.sh t n).m.g2,dI (m.h.sh t n).m.g3,dI (m.h.sh t n).m.g4,dI (m.h.sh t n).m.g5,dI (m.h.sh t n).len,dI (m.h.sh t n).fifths,dB (m.h.sh t n).start,dI (m.h.sh t n).fin,dI (m.h.sh t n).ends,dI (m.h.sh t n).jump,dI (m.h.sh t n).labels,dI (m.h.sh t n).swing,dI (m.h.sh t n).brk, .v (.string ⟨(m.h.sh t n).reh.toArray⟩), .sl 3 ((m.tempi.filter (tmK (plS t n).len)).map Tm.c), .sl 2 ((m.cells.map (Cv (plS m.h.m m.h.len) (plS t n))).map Ce.c)])) (Aa (Ad R R A1 R lb)) (by kernel_rfl))<|?_
 refine XL.step R (Ag (l':= [.d (dI (m.h.sh t n).site), .d (dI (m.h.sh t n).num), .d (dI (m.h.sh t n).m.count), .d (dI (m.h.sh t n).m.unit), .d (dI (m.h.sh t n).m.g0), .d (dI (m.h.sh t n).m.g1), .d (dI (m.h.sh t n).m.g2), .d (dI (m.h.sh t n).m.g3), .d (dI (m.h.sh t n).m.g4), .d (dI (m.h.sh t n).m.g5), .d (dI (m.h.sh t n).len), .d (dI (m.h.sh t n).fifths), .d (dB (m.h.sh t n).start), .d (dI (m.h.sh t n).fin), .d (dI (m.h.sh t n).ends), .d (dI (m.h.sh t n).jump), .d (dI (m.h.sh t n).labels), .d (dI (m.h.sh t n).swing), .d (dI (m.h.sh t n).brk), .d (.v (.string ⟨(m.h.sh t n).reh.toArray⟩)), .d (.sl 3 ((m.tempi.filter (tmK (plS t n).len)).map Tm.c)), .d (.sl 2 ((m.cells.map (Cv (plS m.h.m m.h.len) (plS t n))).map Ce.c))]) R R R R Ed R lb (by kernel_rfl))<|?_
 refine za R R<|zn<|zt<|?_
 exact Az R (RV.cells R R R A1 lb R) (RV.tmp R R) (U2 (Asi c21 c33 (by rw [←hgo,hk0b,List.drop_length];rfl)))
end Go.Proofs.YtaafemnkamfgnaaGreat
namespace Go.Proofs.YtaafemnkamfgnaaGreat
open Go.RowKit
def kR (n:Int) (v:Val):Ev:=⟨1,n,2,v, [], [],0,0,0, [],0,0⟩
def U0:Vo:=⟨[kR 1 ⟨1,0⟩,kR 2 ⟨2,0⟩], []⟩
def Uz:Vo:=⟨[kR 3 ⟨1,1⟩], []⟩
def kCe:Ce:=⟨[], [U0,Uz]⟩
def kMe:Me:=⟨3,4,0,0,0,0,0,0⟩
def J6:Me:=⟨4,4,0,0,0,0,0,0⟩
def kM:Ms:=⟨⟨0,0,kMe,0,0,false,0,0,0,0,0,0, []⟩, [], [kCe]⟩
def kSl:List Slt:= [⟨0,0,0,0,967680⟩,⟨0,0,1,967680,1451520⟩,⟨0,1,0,0,1451520⟩]
theorem Ai5 (n:Int) (v:Val):(kR n v).fit:=⟨Nat.zero_le _,Nat.zero_le _,Nat.zero_le _⟩
theorem Yt : kM.fit := ⟨by decide, by decide, fun c hc => by
 have:=List.mem_singleton.1 hc;subst this
 refine ⟨by decide,by decide,fun v hv=> ?_⟩
 simp only [kCe,List.mem_cons,List.not_mem_nil,or_false] at hv
 rcases hv with rfl|rfl
 ·exact ⟨by decide,by decide,fun e he=>by simp only [U0,List.mem_cons,List.not_mem_nil,or_false] at he;rcases he with rfl|rfl<;>exact Ai5 _ _⟩
 ·exact ⟨by decide, by decide, fun e he => by simp only [Uz, List.mem_cons, List.not_mem_nil, or_false] at he; rcases he with rfl; exact Ai5 _ _⟩⟩
theorem Yu:kM.evs:=fun c hc v hv e he=>by
 have:=List.mem_singleton.1 hc;subst this
 simp only [kCe,List.mem_cons,List.not_mem_nil,or_false] at hv
 rcases hv with rfl|rfl
 ·simp only [U0,List.mem_cons,List.not_mem_nil,or_false] at he;rcases he with rfl|rfl<;>decide
 ·simp only [Uz,List.mem_cons,List.not_mem_nil,or_false] at he;rcases he with rfl;decide
theorem Ai3:slE kM=0:=by decide+kernel
theorem Ai2:slL kM=kSl:=by decide+kernel
theorem Ar9:mlE kMe 0=0:=by decide+kernel
theorem Ar8:mlV kMe 0=1451520:=by decide+kernel
theorem Asa:Zg kM= [0,967680]:=by
 unfold Zg
 rw [Ai2,show kSl.map (·.on)= [0,967680,0] from rfl]
 have h1:srt [0,967680,0]= [0,0,967680]:=by
  have hp:([0,967680,0]:List Int).Perm [0,0,967680]:=by decide
  have e1:srt [0,967680,0]=srt [0,0,967680]:=by
   refine List.Perm.eq_of_pairwise (le:=fun a b=>decide (a≤b)=true) (fun a b _ _ h1 h2=>by simp at h1 h2;omega) (List.pairwise_mergeSort (fun a b c h1 h2=>by simp at h1 h2 ⊢;omega) (fun a b=>by simp;omega) _) (List.pairwise_mergeSort (fun a b c h1 h2=>by simp at h1 h2 ⊢;omega) (fun a b=>by simp;omega) _) ?_
   exact ((List.mergeSort_perm _ _).trans hp).trans (List.mergeSort_perm _ _).symm
  rw [e1]
  exact List.mergeSort_of_pairwise (by decide)
 rw [h1]
 decide+kernel
theorem Ano:Jh kM J6 0=0:=by decide+kernel
theorem Atu:Mu kM J6 0=Agf kM J6 0 (plS kMe 0) (plS J6 0):=by rw [Mu,Ano];rfl
theorem Ai4:(Cv (plS kMe 0) (plS J6 0) kCe).voices.length=2:=by decide+kernel
theorem Atv : ∃ y, (Cv (plS kMe 0) (plS J6 0) kCe).voices[1]? = some y ∧ y.evs.length = 2 := ⟨(Cv (plS kMe 0) (plS J6 0) kCe).voices[1]'(by rw [Ai4]; decide), List.getElem?_eq_getElem _, by decide +kernel⟩
theorem Uu (n:Int) (v:Val):XC Tryz.prog 94 [.agg [dI 1,dI n], .agg (Val.c v)] (fun r=>r= .agg (Ev.c (kR n v))):=by
 refine Aj Acn Tryz.func94 R R lb<|zr<|XL.step R (Aq 2 (l:= [.d (dI 1), .d (dI n)]) R R (by kernel_rfl))<|XL.step R (Aq 3 (l:= [.d (dI v.log), .d (dI v.dots)]) R R (by kernel_rfl))<|?_
 refine XL.step R (Al 4 (l:= [.d (dI 0), .d (dI 0), .d (dI 0), .d (dI 0), .d (dI 0), .d (.v (.slice none 0 0)), .d (.v (.slice none 0 0)), .d (dI 0), .d (dI 0), .d (dI 0), .d (.v (.slice none 0 0)), .d (dI 0), .d (dI 0)]) R B3 (by kernel_rfl))<|znr<|zp (Ae (s':= .d (.agg [dI 1,dI n])) (Aa (Ad R R My R lb)) (by kernel_rfl))<|?_
 refine zp (Ae (s':= .d (.agg (Val.c v))) (Aa (Ad R R Ek R lb)) (by kernel_rfl))<|zp (Ae (s':= .d (.agg [dI 1,dI n,dI 2,dI v.log,dI v.dots, .v (.slice none 0 0), .v (.slice none 0 0),dI 0,dI 0,dI 0, .v (.slice none 0 0),dI 0,dI 0])) (Aa (Ao R K3 B3 R)) (by kernel_rfl))<|?_
 refine XL.step R (Ag (l':= [.d (dI 1), .d (dI n), .d (dI 2), .d (dI v.log), .d (dI v.dots), .d (.v (.slice none 0 0)), .d (.v (.slice none 0 0)), .d (dI 0), .d (dI 0), .d (dI 0), .d (.v (.slice none 0 0)), .d (dI 0), .d (dI 0)]) R R R R C7 R lb (by kernel_rfl))<|zn<|zt<|?_
 exact Iz R (RV.sub (RV.cells R R R Bz lb R) (.agg (.cons (.same R) (.cons (.same R) (.cons (.same R) (.cons (.same R) (.cons (.same R) (.cons (.nil 5) (.cons (.nil 5) (.cons (.same R) (.cons (.same R) (.cons (.same R) (.cons (.nil 2) (.cons (.same R) (.cons (.same R) (.nil)))))))))))))))) (R)
theorem Ls  :XC Tryz.prog 55 [] (fun r=>r= .agg (Ms.c kM)):=by
 refine Aj Adc Tryz.func55 R R lb<|zr<|XL.step R (Al 0 (l:= [.d (dI 0), .d (dI 0), .d (dI 0), .d (dI 0), .d (dI 0), .d (dI 0), .d (dI 0), .d (dI 0), .d (dI 0), .d (dI 0), .d (dI 0), .d (dI 0), .d (dB false), .d (dI 0), .d (dI 0), .d (dI 0), .d (dI 0), .d (dI 0), .d (dI 0), .d (.v (.string ⟨#[]⟩)), .d (.v (.slice none 0 0)), .d (.v (.slice none 0 0))]) R Bn (by kernel_rfl))<|znr<|?_
 refine zp (Ae (s':= .d (.agg [dI 1,dI 1])) (Aa (Ao R Xr Um R)) (by kernel_rfl))<|zp (Ae (s':= .d (.agg [dI 1,dI 0])) (Aa (Ao R Xp Fp R)) (by kernel_rfl))<|XL.call1 R R (Uu 1 ⟨1,0⟩) R<|zp (Ae (s':= .d (.agg [dI 1,dI 2])) (Aa (Ao R Xr Um R)) (by kernel_rfl))<|?_
 refine zp (Ae (s':= .d (.agg [dI 2,dI 0])) (Aa (Ao R Xp Fp R)) (by kernel_rfl))<|XL.call1 R R (Uu 2 ⟨2,0⟩) R<|XL.step R (Al 1 (l:= [.d (dI 0), .d (dI 0), .d (dI 0), .d (dI 0), .d (dI 0), .d (.v (.slice none 0 0)), .d (.v (.slice none 0 0)), .d (dI 0), .d (dI 0), .d (dI 0), .d (.v (.slice none 0 0)), .d (dI 0), .d (dI 0)]) R B3 (by kernel_rfl))<|?_
 refine XL.step R (Al 2 (l:= [.d (dI 0), .d (dI 0), .d (dI 0), .d (dI 0), .d (dI 0), .d (.v (.slice none 0 0)), .d (.v (.slice none 0 0)), .d (dI 0), .d (dI 0), .d (dI 0), .d (.v (.slice none 0 0)), .d (dI 0), .d (dI 0)]) R B3 (by kernel_rfl))<|?_
 refine XL.step R (Ag (l':= [.d (dI (kR 1 ⟨1,0⟩).site), .d (dI (kR 1 ⟨1,0⟩).num), .d (dI (kR 1 ⟨1,0⟩).kind), .d (dI (kR 1 ⟨1,0⟩).v.log), .d (dI (kR 1 ⟨1,0⟩).v.dots), .d (.sl 5 ((kR 1 ⟨1,0⟩).heads.map Hd.c)), .d (.sl 5 ((kR 1 ⟨1,0⟩).graces.map Gr.c)), .d (dI (kR 1 ⟨1,0⟩).art), .d (dI (kR 1 ⟨1,0⟩).orn), .d (dI (kR 1 ⟨1,0⟩).dyn), .d (.sl 2 ((kR 1 ⟨1,0⟩).lyr.map Sy.c)), .d (dI (kR 1 ⟨1,0⟩).stem), .d (dI (kR 1 ⟨1,0⟩).beam)]) R R R R C7 R lb (by kernel_rfl))<|?_
 refine XL.step R (Ag (l':= [.d (dI (kR 2 ⟨2,0⟩).site), .d (dI (kR 2 ⟨2,0⟩).num), .d (dI (kR 2 ⟨2,0⟩).kind), .d (dI (kR 2 ⟨2,0⟩).v.log), .d (dI (kR 2 ⟨2,0⟩).v.dots), .d (.sl 5 ((kR 2 ⟨2,0⟩).heads.map Hd.c)), .d (.sl 5 ((kR 2 ⟨2,0⟩).graces.map Gr.c)), .d (dI (kR 2 ⟨2,0⟩).art), .d (dI (kR 2 ⟨2,0⟩).orn), .d (dI (kR 2 ⟨2,0⟩).dyn), .d (.sl 2 ((kR 2 ⟨2,0⟩).lyr.map Sy.c)), .d (dI (kR 2 ⟨2,0⟩).stem), .d (dI (kR 2 ⟨2,0⟩).beam)]) R R R R C7 R lb (by kernel_rfl))<|?_
 refine znr<|zp (Ae (s':= .d (.agg [dI 1,dI 3])) (Aa (Ao R Xr Um R)) (by kernel_rfl))<|zp (Ae (s':= .d (.agg [dI 1,dI 1])) (Aa (Ao R Xp Fp R)) (by kernel_rfl))<|XL.call1 R R (Uu 3 ⟨1,1⟩) R<|?_
 refine XL.step R (Al 3 (l:= [.d (dI 0), .d (dI 0), .d (dI 0), .d (dI 0), .d (dI 0), .d (.v (.slice none 0 0)), .d (.v (.slice none 0 0)), .d (dI 0), .d (dI 0), .d (dI 0), .d (.v (.slice none 0 0)), .d (dI 0), .d (dI 0)]) R B3 (by kernel_rfl))<|?_
 refine XL.step R (Ag (l':= [.d (dI (kR 3 ⟨1,1⟩).site), .d (dI (kR 3 ⟨1,1⟩).num), .d (dI (kR 3 ⟨1,1⟩).kind), .d (dI (kR 3 ⟨1,1⟩).v.log), .d (dI (kR 3 ⟨1,1⟩).v.dots), .d (.sl 5 ((kR 3 ⟨1,1⟩).heads.map Hd.c)), .d (.sl 5 ((kR 3 ⟨1,1⟩).graces.map Gr.c)), .d (dI (kR 3 ⟨1,1⟩).art), .d (dI (kR 3 ⟨1,1⟩).orn), .d (dI (kR 3 ⟨1,1⟩).dyn), .d (.sl 2 ((kR 3 ⟨1,1⟩).lyr.map Sy.c)), .d (dI (kR 3 ⟨1,1⟩).stem), .d (dI (kR 3 ⟨1,1⟩).beam)]) R R R R C7 R lb (by kernel_rfl))<|?_
 refine znr<|zp (Ae (s':= .d (.agg [dI 3,dI 4,dI 0,dI 0,dI 0,dI 0,dI 0,dI 0])) (Aa (Ao R Ahj Ads R)) (by kernel_rfl))<|zp (Ae (s':= .d (.agg (Ev.c (kR 1 ⟨1,0⟩)))) (Aa (Ad R R Bz R lb)) (by kernel_rfl))<|zp (Ae (s':= .d (.agg (Ev.c (kR 2 ⟨2,0⟩)))) (Aa (Ad R R Bz R lb)) (by kernel_rfl))<|?_
 refine XL.step R (Ee (l:= [kR 1 ⟨1,0⟩,kR 2 ⟨2,0⟩].map Ev.c) R Tryz.underlying79 C7 B3 (by kernel_rfl) R (by omega) (by omega))<|zp (Cb (.agg (Vo.c U0)) (Ae (s':= .d (.agg [.sl 13 ([kR 1 ⟨1,0⟩,kR 2 ⟨2,0⟩].map Ev.c), .v (.slice none 0 0)])) (Aa (Ao R Cu Bc R)) (by kernel_rfl)) (.agg (.cons (.same R) (.cons (.nil 4) (.nil)))))<|?_
 refine zp (Ae (s':= .d (.agg (Ev.c (kR 3 ⟨1,1⟩)))) (Aa (Ad R R Bz R lb)) (by kernel_rfl))<|XL.step R (Ee (l:= [kR 3 ⟨1,1⟩].map Ev.c) R Tryz.underlying79 C7 B3 (by kernel_rfl) R (by omega) (by omega))<|?_
 refine zp (Cb (.agg (Vo.c Uz)) (Ae (s':= .d (.agg [.sl 13 ([kR 3 ⟨1,1⟩].map Ev.c), .v (.slice none 0 0)])) (Aa (Ao R Cu Bc R)) (by kernel_rfl)) (.agg (.cons (.same R) (.cons (.nil 4) (.nil)))))<|XL.step R (Ee (l:= [U0,Uz].map Vo.c) R Tryz.underlying76 Bp Bc (by kernel_rfl) R (by omega) (by omega))<|?_
 refine zp (Cb (.agg (Ce.c kCe)) (Ae (s':= .d (.agg [.v (.slice none 0 0), .sl 2 ([U0,Uz].map Vo.c)])) (Aa (Ao R Pg Eo R)) (by kernel_rfl)) (.agg (.cons (.nil 2) (.cons (.same R) (.nil)))))<|XL.step R (Ee (l:= [kCe].map Ce.c) R Tryz.underlying28 I7 Eo (by kernel_rfl) R (by omega) (by omega))<|?_
 refine zp (Cb (.agg (Ms.c kM)) (Ae (s':= .d (.agg [dI 0,dI 0,dI 3,dI 4,dI 0,dI 0,dI 0,dI 0,dI 0,dI 0,dI 0,dI 0,dB false,dI 0,dI 0,dI 0,dI 0,dI 0,dI 0, .v (.string ⟨#[]⟩), .v (.slice none 0 0), .sl 2 ([kCe].map Ce.c)])) (Aa (Ao (r:= [.d (dI 0), .d (dI 0), .d (dI 3), .d (dI 4), .d (dI 0), .d (dI 0), .d (dI 0), .d (dI 0), .d (dI 0), .d (dI 0), .d (dI 0), .d (dI 0), .d (dB false), .d (dI 0), .d (dI 0), .d (dI 0), .d (dI 0), .d (dI 0), .d (dI 0), .d (.v (.string ⟨#[]⟩)), .d (.v (.slice none 0 0)), .d (.sl 2 ([kCe].map Ce.c))]) R Cz Bn (by kernel_rfl))) (by kernel_rfl)) (.agg (.cons (.same R) (.cons (.same R) (.cons (.same R) (.cons (.same R) (.cons (.same R) (.cons (.same R) (.cons (.same R) (.cons (.same R) (.cons (.same R) (.cons (.same R) (.cons (.same R) (.cons (.same R) (.cons (.same R) (.cons (.same R) (.cons (.same R) (.cons (.same R) (.cons (.same R) (.cons (.same R) (.cons (.same R) (.cons (.same R) (.cons (.nil 3) (.cons (.same R) (.nil)))))))))))))))))))))))))<|?_
 refine XL.step R (Ag (l':= [.d (dI kM.h.site), .d (dI kM.h.num), .d (dI kM.h.m.count), .d (dI kM.h.m.unit), .d (dI kM.h.m.g0), .d (dI kM.h.m.g1), .d (dI kM.h.m.g2), .d (dI kM.h.m.g3), .d (dI kM.h.m.g4), .d (dI kM.h.m.g5), .d (dI kM.h.len), .d (dI kM.h.fifths), .d (dB kM.h.start), .d (dI kM.h.fin), .d (dI kM.h.ends), .d (dI kM.h.jump), .d (dI kM.h.labels), .d (dI kM.h.swing), .d (dI kM.h.brk), .d (.v (.string ⟨kM.h.reh.toArray⟩)), .d (.sl 3 (kM.tempi.map Tm.c)), .d (.sl 2 (kM.cells.map Ce.c))]) R R R R Ed R lb (by kernel_rfl))<|?_
 refine zn<|zt<|?_
 exact Iz R (RV.cells R R R A1 lb R) (R)
theorem Ai1:XC Tryz.prog 20 [.agg (Ms.c kM)] (fun r=>r= .tup [.sl 5 (kSl.map Slt.c),dI 0]):=by
 have:=Xu kM Yt Yu
 rw [Ai2,Ai3] at this;exact this
theorem Apn:XC Tryz.prog 21 [.agg (Ms.c kM)] (fun r=>r= .tup [.sl 1 (([0,967680]:List Int).map iv),dI 0]):=by
 have:=Agp kM Yt Yu
 rw [Asa,Ai3] at this;exact this
def kF:Ms:=Agf kM J6 0 (plS kMe 0) (plS J6 0)
theorem Apm:XC Tryz.prog 28 [.agg (Ms.c kM), .agg (Me.c J6),dI 0] (fun r=>r= .tup [.agg (Ms.c kF),dI 0]):=by
 have:=Apf kM J6 0 Yt Yu
 rw [Atu,Ano] at this;exact this
theorem Apl:XC Tryz.prog 15 [.agg (Ms.c kM)] (fun r=>r= .tup [dI 1451520,dI 0]):=by
 have:=Pz kM.h kM.tempi kM.cells
 rw [show mlV kM.h.m kM.h.len=1451520 from Ar8,show mlE kM.h.m kM.h.len=0 from Ar9] at this;exact this
theorem Dz  :XC Tryz.prog 19 [] (fun r=>r=dB true):=by
 obtain ⟨y,hy,hyl⟩:=Atv
 refine Aj Adq Tryz.func19 R R lb<|zr<|za R R<|znr<|XL.call1 R R (Ls) R<|XL.call1 R R (Ai1) R<|zm R R<|zp (An R R R)<|zp (An R R R)<|za R R<|za R R<|znr<|XL.call1 R R (Ls) R<|XL.call1 R R (Apn) R<|?_
 refine zm R R<|zp (An R R R)<|zp (An R R R)<|za R R<|za R R<|znr<|XL.call1 R R (Ls) R<|zp (Ae (s':= .d (.agg (Me.c J6))) (Aa (Ao R Ahj Ads R)) (by kernel_rfl))<|XL.call1 R R (Apm) R<|zm R R<|zp (An R R R)<|zp (An R R R)<|?_
 refine XL.step R (Al 5 (l:= [.d (dI 0), .d (dI 0), .d (dI 0), .d (dI 0), .d (dI 0), .d (dI 0), .d (dI 0), .d (dI 0), .d (dI 0), .d (dI 0), .d (dI 0), .d (dI 0), .d (dB false), .d (dI 0), .d (dI 0), .d (dI 0), .d (dI 0), .d (dI 0), .d (dI 0), .d (.v (.string ⟨#[]⟩)), .d (.v (.slice none 0 0)), .d (.v (.slice none 0 0))]) R Bn (by kernel_rfl))<|?_
 refine XL.step R (Ag (l':= [.d (dI kF.h.site), .d (dI kF.h.num), .d (dI kF.h.m.count), .d (dI kF.h.m.unit), .d (dI kF.h.m.g0), .d (dI kF.h.m.g1), .d (dI kF.h.m.g2), .d (dI kF.h.m.g3), .d (dI kF.h.m.g4), .d (dI kF.h.m.g5), .d (dI kF.h.len), .d (dI kF.h.fifths), .d (dB kF.h.start), .d (dI kF.h.fin), .d (dI kF.h.ends), .d (dI kF.h.jump), .d (dI kF.h.labels), .d (dI kF.h.swing), .d (dI kF.h.brk), .d (.v (.string ⟨kF.h.reh.toArray⟩)), .d (.sl 3 (kF.tempi.map Tm.c)), .d (.sl 2 (kF.cells.map Ce.c))]) R R R R Ed R lb (by kernel_rfl))<|?_
 refine za R R<|znr<|XL.call1 R R (Ls) R<|XL.call1 R R (Apl) R<|zm R R<|zp (An R R R)<|zp (An R R R)<|za R R<|za R R<|znr<|zm R R<|zp (Cd (A8 R R R) (R))<|zm R R<|zm R R<|?_
 refine XL.len R R R Tryz.underlying42 fun hl34=>zp (Cd (A8 R R R) (by decide))<|zq R R R<|zm R R<|zm R R<|zp (At (k:=1) R R R Anv ((R:kSl[1]? =some ⟨0,0,1,967680,1451520⟩)))<|zp (Ae (s':= .d (.agg (Slt.c (⟨0,0,1,967680,1451520⟩)))) (A9 R R Aka lb) (by kernel_rfl))<|?_
 refine zp (Ae (s':= .d (.agg [dI 0,dI 0,dI 1,dI 967680,dI 1451520])) (Aa (Ao R Xq Lw R)) (by kernel_rfl))<|zp (Ae (s':= .d (dB true)) (Ak7 R R R) (by kernel_rfl))<|zq R R R<|zm R R<|zm R R<|zp (Cd (A8 R R R) (R))<|zq R R R<|zm R R<|zm R R<|XL.len R R R Tryz.underlying45 fun hl50=>zp (Cd (A8 R R R) (by decide))<|zq R R R<|zm R R<|zm R R<|?_
 refine zp (At (k:=1) R R R Dt ((R:([0,967680]:List Int)[1]? =some 967680)))<|zp (Bb R R Ai)<|zp (Cd (A8 R R R) (R))<|zq R R R<|zm R R<|zm R R<|zp (Cd (A8 R R R) (R))<|zq R R R<|zm R R<|zp (Ac R R C2)<|zp (Ab R R G1 R R)<|XL.len R R R Tryz.underlying28 fun hl66=>zp (Cd (A8 R R R) (by decide))<|zq R R R<|?_
 refine zm R R<|zp (Ac R R C2)<|zp (Ab R R G1 R R)<|zp (At (k:=0) R R R Ni ((R:kF.cells[0]? =some (Cv (plS kMe 0) (plS J6 0) kCe))))<|zp (Ff R R D0)<|zp (Bb R R Gi)<|XL.len R R R Tryz.underlying76 fun hl75=>zp (Cd (A8 R R R) (by rw [Ai4];rfl))<|zq R R R<|zm R R<|zp (Ac R R C2)<|zp (Ab R R G1 R R)<|?_
 refine zp (At (k:=0) R R R Ni ((R:kF.cells[0]? =some (Cv (plS kMe 0) (plS J6 0) kCe))))<|zp (Ff R R D0)<|zp (Bb R R Gi)<|zp (At (k:=1) R R R Kv (hy))<|zp (Ff R R B2)<|zp (Bb R R De)<|XL.len R R R Tryz.underlying79 fun hl87=>zp (Cd (A8 R R R) (by rw [hyl];rfl))<|zq R R R<|zm R R<|zm R R<|zp (Cd (A8 R R R) (R))<|?_
 exact zq R R R<|zm R R<|zm R R<|zp (Cd (A8 R R R) (R))<|zq R R R<|za R R<|zn<|zt<|z1 R R (R)
end Go.Proofs.YtaafemnkamfgnaaGreat
namespace Go.Proofs.YtaafemnkamfgnaaGreat
open Go.RowKit
theorem Aqx:sizeB Tryz.prog 195 63=true:=by kernel_rfl
theorem Xc:zeroB Tryz.prog 195 (.agg #[.string ⟨#[]⟩, .int .u8 0, .int .i64 0, .int .i64 0, .int .i64 0, .int .i64 0, .int .i64 0, .string ⟨#[]⟩, .int .u8 0, .int .i64 0, .int .i64 0, .int .i64 0, .int .i64 0, .int .i64 0, .string ⟨#[]⟩, .int .u8 0, .int .i64 0, .int .i64 0, .int .i64 0, .int .i64 0, .int .i64 0, .string ⟨#[]⟩, .int .u8 0, .int .i64 0, .int .i64 0, .int .i64 0, .int .i64 0, .int .i64 0, .string ⟨#[]⟩, .int .u8 0, .int .i64 0, .int .i64 0, .int .i64 0, .int .i64 0, .int .i64 0, .string ⟨#[]⟩, .int .u8 0, .int .i64 0, .int .i64 0, .int .i64 0, .int .i64 0, .int .i64 0, .string ⟨#[]⟩, .int .u8 0, .int .i64 0, .int .i64 0, .int .i64 0, .int .i64 0, .int .i64 0, .string ⟨#[]⟩, .int .u8 0, .int .i64 0, .int .i64 0, .int .i64 0, .int .i64 0, .int .i64 0, .string ⟨#[]⟩, .int .u8 0, .int .i64 0, .int .i64 0, .int .i64 0, .int .i64 0, .int .i64 0]):=by unfold zeroB;kernel_rfl
theorem Aqi:aggB Tryz.prog 195 63=true:=by kernel_rfl
theorem Hh {P:Program} {o:Oper} {e:Operand→S} {h:Xh} {t m k sz:Nat} {x y:Operand} {l:List D} {el:TypeId} {ik:IntKind} {a:Int} (ho:o.op= .index t x y) (hx:e x= .d (.agg l)) (hy:e y= .d (.v (.int ik a))) (ha:a=(k:Int)) (hu:P.underlying t=some (.array m el)) (hs:aggB P el sz=true) (h1:sizeB P el sz=true) (hk:k<m) (hl:k*sz+sz≤l.length):Bi P o e h (.d (.agg ((l.drop (k*sz)).take sz))):=fun E H β ρ w _ hop=>by
 subst ha
 have g:=hop x (by rw [ho];simp [Op.operands])
 have g2:=hop y (by rw [ho];simp [Op.operands])
 rw [hx] at g
 rw [hy] at g2
 obtain ⟨cs,e1,e2,e3⟩:=Nx (Eb g)
 have hlt:(0:Int)≤(k:Int)∧(k:Int)<(m:Int):=⟨by omega,by omega⟩
 refine ⟨.agg (cs.extract (k*sz) (k*sz+sz)), ?_, .d (.agg _ _ (by simp;omega) fun i v d hv hd=> ?_)⟩
 ·unfold execOp
  simp only [ho,e1,Do g2,Instr.index,asIntOf,Sem.run_bind,run_underlying hu,Result.andThen_ok,Sem.run_pure,hlt,and_self,if_true,sizeB.run h1,Int.toNat_natCast,part,(aggB.isAgg hs w).1,show k*sz+sz≤cs.size by omega,decide_true]
 ·rw [List.getElem?_take] at hd
  split at hd
  ·rw [List.getElem?_drop] at hd
   rw [Array.getElem?_extract] at hv
   split at hv
   ·exact e3 _ v d hv hd
   ·cases hv
  ·cases hd
def cfE (c:Int):Int:=if c<1∨9<c then 11 else 0
theorem Au0 {c:Int} (h:c<1∨9<c):11=cfE c:=by rw [cfE,if_pos h]
theorem Hk  :XC Tryz.prog 137 [] (fun r=>r= .agg [.v (.string ⟨#[116,114,101,98,108,101]⟩), .v (.int .u8 71),dI (-2),dI 0,dI 34,dI (-1),dI (-3), .v (.string ⟨#[98,97,115,115]⟩), .v (.int .u8 70),dI 2,dI 0,dI 22,dI (-3),dI (-5), .v (.string ⟨#[97,108,116,111]⟩), .v (.int .u8 67),dI 0,dI 0,dI 28,dI (-2),dI (-4), .v (.string ⟨#[116,101,110,111,114]⟩), .v (.int .u8 67),dI 2,dI 0,dI 26,dI (-2),dI (-2), .v (.string ⟨#[115,111,112,114,97,110,111]⟩), .v (.int .u8 67),dI (-4),dI 0,dI 32,dI (-2),dI (-3), .v (.string ⟨#[109,101,122,122,111,115,111,112,114,97,110,111]⟩), .v (.int .u8 67),dI (-2),dI 0,dI 30,dI (-2),dI (-3), .v (.string ⟨#[98,97,114,105,116,111,110,101]⟩), .v (.int .u8 70),dI 0,dI 0,dI 24,dI (-2),dI (-3), .v (.string ⟨#[116,114,101,98,108,101,56]⟩), .v (.int .u8 71),dI (-2),dI (-1),dI 27,dI (-1),dI (-3), .v (.string ⟨#[98,97,115,115,56]⟩), .v (.int .u8 70),dI 2,dI (-1),dI 15,dI (-3),dI (-5)]):=by
 refine Aj Abc Tryz.func137 R R lb<|zr<|?_
 refine XL.step R (Al 0 (l:= [.d (.v (.string ⟨#[]⟩)), .d (.v (.int .u8 0)), .d (dI 0), .d (dI 0), .d (dI 0), .d (dI 0), .d (dI 0), .d (.v (.string ⟨#[]⟩)), .d (.v (.int .u8 0)), .d (dI 0), .d (dI 0), .d (dI 0), .d (dI 0), .d (dI 0), .d (.v (.string ⟨#[]⟩)), .d (.v (.int .u8 0)), .d (dI 0), .d (dI 0), .d (dI 0), .d (dI 0), .d (dI 0), .d (.v (.string ⟨#[]⟩)), .d (.v (.int .u8 0)), .d (dI 0), .d (dI 0), .d (dI 0), .d (dI 0), .d (dI 0), .d (.v (.string ⟨#[]⟩)), .d (.v (.int .u8 0)), .d (dI 0), .d (dI 0), .d (dI 0), .d (dI 0), .d (dI 0), .d (.v (.string ⟨#[]⟩)), .d (.v (.int .u8 0)), .d (dI 0), .d (dI 0), .d (dI 0), .d (dI 0), .d (dI 0), .d (.v (.string ⟨#[]⟩)), .d (.v (.int .u8 0)), .d (dI 0), .d (dI 0), .d (dI 0), .d (dI 0), .d (dI 0), .d (.v (.string ⟨#[]⟩)), .d (.v (.int .u8 0)), .d (dI 0), .d (dI 0), .d (dI 0), .d (dI 0), .d (dI 0), .d (.v (.string ⟨#[]⟩)), .d (.v (.int .u8 0)), .d (dI 0), .d (dI 0), .d (dI 0), .d (dI 0), .d (dI 0)]) R Xc (by kernel_rfl))<|?_
 refine znr<|zp (Ae (s':= .d (.agg [.v (.string ⟨#[116,114,101,98,108,101]⟩), .v (.int .u8 71),dI (-2),dI 0,dI 34,dI (-1),dI (-3)])) (Aa (Ao R G3 Ca R)) (by kernel_rfl))<|zp (Ae (s':= .d (.agg [.v (.string ⟨#[98,97,115,115]⟩), .v (.int .u8 70),dI 2,dI 0,dI 22,dI (-3),dI (-5)])) (Aa (Ao R G3 Ca R)) (by kernel_rfl))<|?_
 refine zp (Ae (s':= .d (.agg [.v (.string ⟨#[97,108,116,111]⟩), .v (.int .u8 67),dI 0,dI 0,dI 28,dI (-2),dI (-4)])) (Aa (Ao R G3 Ca R)) (by kernel_rfl))<|zp (Ae (s':= .d (.agg [.v (.string ⟨#[116,101,110,111,114]⟩), .v (.int .u8 67),dI 2,dI 0,dI 26,dI (-2),dI (-2)])) (Aa (Ao R G3 Ca R)) (by kernel_rfl))<|?_
 refine zp (Ae (s':= .d (.agg [.v (.string ⟨#[115,111,112,114,97,110,111]⟩), .v (.int .u8 67),dI (-4),dI 0,dI 32,dI (-2),dI (-3)])) (Aa (Ao R G3 Ca R)) (by kernel_rfl))<|?_
 refine zp (Ae (s':= .d (.agg [.v (.string ⟨#[109,101,122,122,111,115,111,112,114,97,110,111]⟩), .v (.int .u8 67),dI (-2),dI 0,dI 30,dI (-2),dI (-3)])) (Aa (Ao R G3 Ca R)) (by kernel_rfl))<|?_
 refine zp (Ae (s':= .d (.agg [.v (.string ⟨#[98,97,114,105,116,111,110,101]⟩), .v (.int .u8 70),dI 0,dI 0,dI 24,dI (-2),dI (-3)])) (Aa (Ao R G3 Ca R)) (by kernel_rfl))<|?_
 refine zp (Ae (s':= .d (.agg [.v (.string ⟨#[116,114,101,98,108,101,56]⟩), .v (.int .u8 71),dI (-2),dI (-1),dI 27,dI (-1),dI (-3)])) (Aa (Ao R G3 Ca R)) (by kernel_rfl))<|zp (Ae (s':= .d (.agg [.v (.string ⟨#[98,97,115,115,56]⟩), .v (.int .u8 70),dI 2,dI (-1),dI 15,dI (-3),dI (-5)])) (Aa (Ao R G3 Ca R)) (by kernel_rfl))<|?_
 refine zp (Ae (s':= .d (.agg [.v (.string ⟨#[116,114,101,98,108,101]⟩), .v (.int .u8 71),dI (-2),dI 0,dI 34,dI (-1),dI (-3), .v (.string ⟨#[98,97,115,115]⟩), .v (.int .u8 70),dI 2,dI 0,dI 22,dI (-3),dI (-5), .v (.string ⟨#[97,108,116,111]⟩), .v (.int .u8 67),dI 0,dI 0,dI 28,dI (-2),dI (-4), .v (.string ⟨#[116,101,110,111,114]⟩), .v (.int .u8 67),dI 2,dI 0,dI 26,dI (-2),dI (-2), .v (.string ⟨#[115,111,112,114,97,110,111]⟩), .v (.int .u8 67),dI (-4),dI 0,dI 32,dI (-2),dI (-3), .v (.string ⟨#[109,101,122,122,111,115,111,112,114,97,110,111]⟩), .v (.int .u8 67),dI (-2),dI 0,dI 30,dI (-2),dI (-3), .v (.string ⟨#[98,97,114,105,116,111,110,101]⟩), .v (.int .u8 70),dI 0,dI 0,dI 24,dI (-2),dI (-3), .v (.string ⟨#[116,114,101,98,108,101,56]⟩), .v (.int .u8 71),dI (-2),dI (-1),dI 27,dI (-1),dI (-3), .v (.string ⟨#[98,97,115,115,56]⟩), .v (.int .u8 70),dI 2,dI (-1),dI 15,dI (-3),dI (-5)])) (Aa (Ln R Tryz.underlying195 C6 Xc R)) (by kernel_rfl))<|?_
 refine XL.step R (Ag (l':= [.d (.v (.string ⟨#[116,114,101,98,108,101]⟩)), .d (.v (.int .u8 71)), .d (dI (-2)), .d (dI 0), .d (dI 34), .d (dI (-1)), .d (dI (-3)), .d (.v (.string ⟨#[98,97,115,115]⟩)), .d (.v (.int .u8 70)), .d (dI 2), .d (dI 0), .d (dI 22), .d (dI (-3)), .d (dI (-5)), .d (.v (.string ⟨#[97,108,116,111]⟩)), .d (.v (.int .u8 67)), .d (dI 0), .d (dI 0), .d (dI 28), .d (dI (-2)), .d (dI (-4)), .d (.v (.string ⟨#[116,101,110,111,114]⟩)), .d (.v (.int .u8 67)), .d (dI 2), .d (dI 0), .d (dI 26), .d (dI (-2)), .d (dI (-2)), .d (.v (.string ⟨#[115,111,112,114,97,110,111]⟩)), .d (.v (.int .u8 67)), .d (dI (-4)), .d (dI 0), .d (dI 32), .d (dI (-2)), .d (dI (-3)), .d (.v (.string ⟨#[109,101,122,122,111,115,111,112,114,97,110,111]⟩)), .d (.v (.int .u8 67)), .d (dI (-2)), .d (dI 0), .d (dI 30), .d (dI (-2)), .d (dI (-3)), .d (.v (.string ⟨#[98,97,114,105,116,111,110,101]⟩)), .d (.v (.int .u8 70)), .d (dI 0), .d (dI 0), .d (dI 24), .d (dI (-2)), .d (dI (-3)), .d (.v (.string ⟨#[116,114,101,98,108,101,56]⟩)), .d (.v (.int .u8 71)), .d (dI (-2)), .d (dI (-1)), .d (dI 27), .d (dI (-1)), .d (dI (-3)), .d (.v (.string ⟨#[98,97,115,115,56]⟩)), .d (.v (.int .u8 70)), .d (dI 2), .d (dI (-1)), .d (dI 15), .d (dI (-3)), .d (dI (-5))]) R R R R Aqx R lb (by kernel_rfl))<|?_
 refine zn<|zt<|?_
 exact Iz R (RV.cells R R R Aqi lb R) (R)
theorem Ary  :XC Tryz.prog 106 [.v (.int .i64 1)] (fun r=>r= .tup [.agg [.v (.string ⟨#[116,114,101,98,108,101]⟩), .v (.int .u8 71),dI (-2),dI 0,dI 34,dI (-1),dI (-3)],dI 0]):=by
 refine Aj Ej Tryz.func106 R R lb<|zr<|XL.step R (Al 2 (l:= [.d (.v (.string ⟨#[]⟩)), .d (.v (.int .u8 0)), .d (dI 0), .d (dI 0), .d (dI 0), .d (dI 0), .d (dI 0)]) R Ca (by kernel_rfl))<|za R R<|zn<|zs<|zr<|zm R R<|zp (Cm (Ar R R R) (by decide))<|zm R R<|zm R R<|zp (Cm (A5 R R R) (by decide))<|zq R R R<|zn<|?_
 refine Av (by kernel_rfl) R<|zi<|zr<|XL.call1 R R (Hk) R<|zm R R<|zp (Dr R R R (by decide) (by decide))<|zp (Ae (s':= .d (.agg ([.v (.string ⟨#[116,114,101,98,108,101]⟩), .v (.int .u8 71),dI (-2),dI 0,dI 34,dI (-1),dI (-3)]))) (Hh (k:=0) R R R R Tryz.underlying195 D5 C6 (by decide) (by decide)) (by kernel_rfl))<|?_
 refine XL.step R (Ag (l':= [.d (.v (.string ⟨#[116,114,101,98,108,101]⟩)), .d (.v (.int .u8 71)), .d (dI (-2)), .d (dI 0), .d (dI 34), .d (dI (-1)), .d (dI (-3))]) R R R R C6 R lb (by kernel_rfl))<|za R R<|zn<|zt<|?_
 exact Az R (RV.cells R R R D5 lb R) (RV.tmp R R) (R)
theorem Am4  :XC Tryz.prog 75 [.v (.int .i64 1)] (fun r=>r=dI 0):=by
 refine Aj Eu Tryz.func75 R R lb<|zr<|za R R<|znr<|zm R R<|XL.call1 R R (Ary) R<|zm R R<|zp (An R R R)<|zp (An R R R)<|XL.step R (Al 3 (l:= [.d (.v (.string ⟨#[]⟩)), .d (.v (.int .u8 0)), .d (dI 0), .d (dI 0), .d (dI 0), .d (dI 0), .d (dI 0)]) R Ca (by kernel_rfl))<|?_
 exact XL.step R (Ag (l':= [.d (.v (.string ⟨#[116,114,101,98,108,101]⟩)), .d (.v (.int .u8 71)), .d (dI (-2)), .d (dI 0), .d (dI 34), .d (dI (-1)), .d (dI (-3))]) R R R R C6 R lb (by kernel_rfl))<|za R R<|znr<|zm R R<|za R R<|zn<|zt<|z1 R R (R)
theorem Arx  :XC Tryz.prog 106 [.v (.int .i64 2)] (fun r=>r= .tup [.agg [.v (.string ⟨#[98,97,115,115]⟩), .v (.int .u8 70),dI 2,dI 0,dI 22,dI (-3),dI (-5)],dI 0]):=by
 refine Aj Ej Tryz.func106 R R lb<|zr<|XL.step R (Al 2 (l:= [.d (.v (.string ⟨#[]⟩)), .d (.v (.int .u8 0)), .d (dI 0), .d (dI 0), .d (dI 0), .d (dI 0), .d (dI 0)]) R Ca (by kernel_rfl))<|za R R<|zn<|zs<|zr<|zm R R<|zp (Cm (Ar R R R) (by decide))<|zm R R<|zm R R<|zp (Cm (A5 R R R) (by decide))<|zq R R R<|zn<|?_
 refine Av (by kernel_rfl) R<|zi<|zr<|XL.call1 R R (Hk) R<|zm R R<|zp (Dr R R R (by decide) (by decide))<|zp (Ae (s':= .d (.agg ([.v (.string ⟨#[98,97,115,115]⟩), .v (.int .u8 70),dI 2,dI 0,dI 22,dI (-3),dI (-5)]))) (Hh (k:=1) R R R R Tryz.underlying195 D5 C6 (by decide) (by decide)) (by kernel_rfl))<|?_
 refine XL.step R (Ag (l':= [.d (.v (.string ⟨#[98,97,115,115]⟩)), .d (.v (.int .u8 70)), .d (dI 2), .d (dI 0), .d (dI 22), .d (dI (-3)), .d (dI (-5))]) R R R R C6 R lb (by kernel_rfl))<|za R R<|zn<|zt<|?_
 exact Az R (RV.cells R R R D5 lb R) (RV.tmp R R) (R)
theorem Am3  :XC Tryz.prog 75 [.v (.int .i64 2)] (fun r=>r=dI 0):=by
 refine Aj Eu Tryz.func75 R R lb<|zr<|za R R<|znr<|zm R R<|XL.call1 R R (Arx) R<|zm R R<|zp (An R R R)<|zp (An R R R)<|XL.step R (Al 3 (l:= [.d (.v (.string ⟨#[]⟩)), .d (.v (.int .u8 0)), .d (dI 0), .d (dI 0), .d (dI 0), .d (dI 0), .d (dI 0)]) R Ca (by kernel_rfl))<|?_
 exact XL.step R (Ag (l':= [.d (.v (.string ⟨#[98,97,115,115]⟩)), .d (.v (.int .u8 70)), .d (dI 2), .d (dI 0), .d (dI 22), .d (dI (-3)), .d (dI (-5))]) R R R R C6 R lb (by kernel_rfl))<|za R R<|znr<|zm R R<|za R R<|zn<|zt<|z1 R R (R)
theorem Arw  :XC Tryz.prog 106 [.v (.int .i64 3)] (fun r=>r= .tup [.agg [.v (.string ⟨#[97,108,116,111]⟩), .v (.int .u8 67),dI 0,dI 0,dI 28,dI (-2),dI (-4)],dI 0]):=by
 refine Aj Ej Tryz.func106 R R lb<|zr<|XL.step R (Al 2 (l:= [.d (.v (.string ⟨#[]⟩)), .d (.v (.int .u8 0)), .d (dI 0), .d (dI 0), .d (dI 0), .d (dI 0), .d (dI 0)]) R Ca (by kernel_rfl))<|za R R<|zn<|zs<|zr<|zm R R<|zp (Cm (Ar R R R) (by decide))<|zm R R<|zm R R<|zp (Cm (A5 R R R) (by decide))<|zq R R R<|zn<|?_
 refine Av (by kernel_rfl) R<|zi<|zr<|XL.call1 R R (Hk) R<|zm R R<|zp (Dr R R R (by decide) (by decide))<|zp (Ae (s':= .d (.agg ([.v (.string ⟨#[97,108,116,111]⟩), .v (.int .u8 67),dI 0,dI 0,dI 28,dI (-2),dI (-4)]))) (Hh (k:=2) R R R R Tryz.underlying195 D5 C6 (by decide) (by decide)) (by kernel_rfl))<|?_
 refine XL.step R (Ag (l':= [.d (.v (.string ⟨#[97,108,116,111]⟩)), .d (.v (.int .u8 67)), .d (dI 0), .d (dI 0), .d (dI 28), .d (dI (-2)), .d (dI (-4))]) R R R R C6 R lb (by kernel_rfl))<|za R R<|zn<|zt<|?_
 exact Az R (RV.cells R R R D5 lb R) (RV.tmp R R) (R)
theorem Am2  :XC Tryz.prog 75 [.v (.int .i64 3)] (fun r=>r=dI 0):=by
 refine Aj Eu Tryz.func75 R R lb<|zr<|za R R<|znr<|zm R R<|XL.call1 R R (Arw) R<|zm R R<|zp (An R R R)<|zp (An R R R)<|XL.step R (Al 3 (l:= [.d (.v (.string ⟨#[]⟩)), .d (.v (.int .u8 0)), .d (dI 0), .d (dI 0), .d (dI 0), .d (dI 0), .d (dI 0)]) R Ca (by kernel_rfl))<|?_
 exact XL.step R (Ag (l':= [.d (.v (.string ⟨#[97,108,116,111]⟩)), .d (.v (.int .u8 67)), .d (dI 0), .d (dI 0), .d (dI 28), .d (dI (-2)), .d (dI (-4))]) R R R R C6 R lb (by kernel_rfl))<|za R R<|znr<|zm R R<|za R R<|zn<|zt<|z1 R R (R)
theorem Arv  :XC Tryz.prog 106 [.v (.int .i64 4)] (fun r=>r= .tup [.agg [.v (.string ⟨#[116,101,110,111,114]⟩), .v (.int .u8 67),dI 2,dI 0,dI 26,dI (-2),dI (-2)],dI 0]):=by
 refine Aj Ej Tryz.func106 R R lb<|zr<|XL.step R (Al 2 (l:= [.d (.v (.string ⟨#[]⟩)), .d (.v (.int .u8 0)), .d (dI 0), .d (dI 0), .d (dI 0), .d (dI 0), .d (dI 0)]) R Ca (by kernel_rfl))<|za R R<|zn<|zs<|zr<|zm R R<|zp (Cm (Ar R R R) (by decide))<|zm R R<|zm R R<|zp (Cm (A5 R R R) (by decide))<|zq R R R<|zn<|?_
 refine Av (by kernel_rfl) R<|zi<|zr<|XL.call1 R R (Hk) R<|zm R R<|zp (Dr R R R (by decide) (by decide))<|zp (Ae (s':= .d (.agg ([.v (.string ⟨#[116,101,110,111,114]⟩), .v (.int .u8 67),dI 2,dI 0,dI 26,dI (-2),dI (-2)]))) (Hh (k:=3) R R R R Tryz.underlying195 D5 C6 (by decide) (by decide)) (by kernel_rfl))<|?_
 refine XL.step R (Ag (l':= [.d (.v (.string ⟨#[116,101,110,111,114]⟩)), .d (.v (.int .u8 67)), .d (dI 2), .d (dI 0), .d (dI 26), .d (dI (-2)), .d (dI (-2))]) R R R R C6 R lb (by kernel_rfl))<|za R R<|zn<|zt<|?_
 exact Az R (RV.cells R R R D5 lb R) (RV.tmp R R) (R)
theorem Am1  :XC Tryz.prog 75 [.v (.int .i64 4)] (fun r=>r=dI 0):=by
 refine Aj Eu Tryz.func75 R R lb<|zr<|za R R<|znr<|zm R R<|XL.call1 R R (Arv) R<|zm R R<|zp (An R R R)<|zp (An R R R)<|XL.step R (Al 3 (l:= [.d (.v (.string ⟨#[]⟩)), .d (.v (.int .u8 0)), .d (dI 0), .d (dI 0), .d (dI 0), .d (dI 0), .d (dI 0)]) R Ca (by kernel_rfl))<|?_
 exact XL.step R (Ag (l':= [.d (.v (.string ⟨#[116,101,110,111,114]⟩)), .d (.v (.int .u8 67)), .d (dI 2), .d (dI 0), .d (dI 26), .d (dI (-2)), .d (dI (-2))]) R R R R C6 R lb (by kernel_rfl))<|za R R<|znr<|zm R R<|za R R<|zn<|zt<|z1 R R (R)
theorem Aru  :XC Tryz.prog 106 [.v (.int .i64 5)] (fun r=>r= .tup [.agg [.v (.string ⟨#[115,111,112,114,97,110,111]⟩), .v (.int .u8 67),dI (-4),dI 0,dI 32,dI (-2),dI (-3)],dI 0]):=by
 refine Aj Ej Tryz.func106 R R lb<|zr<|XL.step R (Al 2 (l:= [.d (.v (.string ⟨#[]⟩)), .d (.v (.int .u8 0)), .d (dI 0), .d (dI 0), .d (dI 0), .d (dI 0), .d (dI 0)]) R Ca (by kernel_rfl))<|za R R<|zn<|zs<|zr<|zm R R<|zp (Cm (Ar R R R) (by decide))<|zm R R<|zm R R<|zp (Cm (A5 R R R) (by decide))<|zq R R R<|zn<|?_
 refine Av (by kernel_rfl) R<|zi<|zr<|XL.call1 R R (Hk) R<|zm R R<|zp (Dr R R R (by decide) (by decide))<|zp (Ae (s':= .d (.agg ([.v (.string ⟨#[115,111,112,114,97,110,111]⟩), .v (.int .u8 67),dI (-4),dI 0,dI 32,dI (-2),dI (-3)]))) (Hh (k:=4) R R R R Tryz.underlying195 D5 C6 (by decide) (by decide)) (by kernel_rfl))<|?_
 refine XL.step R (Ag (l':= [.d (.v (.string ⟨#[115,111,112,114,97,110,111]⟩)), .d (.v (.int .u8 67)), .d (dI (-4)), .d (dI 0), .d (dI 32), .d (dI (-2)), .d (dI (-3))]) R R R R C6 R lb (by kernel_rfl))<|za R R<|zn<|zt<|?_
 exact Az R (RV.cells R R R D5 lb R) (RV.tmp R R) (R)
theorem Am0  :XC Tryz.prog 75 [.v (.int .i64 5)] (fun r=>r=dI 0):=by
 refine Aj Eu Tryz.func75 R R lb<|zr<|za R R<|znr<|zm R R<|XL.call1 R R (Aru) R<|zm R R<|zp (An R R R)<|zp (An R R R)<|XL.step R (Al 3 (l:= [.d (.v (.string ⟨#[]⟩)), .d (.v (.int .u8 0)), .d (dI 0), .d (dI 0), .d (dI 0), .d (dI 0), .d (dI 0)]) R Ca (by kernel_rfl))<|?_
 exact XL.step R (Ag (l':= [.d (.v (.string ⟨#[115,111,112,114,97,110,111]⟩)), .d (.v (.int .u8 67)), .d (dI (-4)), .d (dI 0), .d (dI 32), .d (dI (-2)), .d (dI (-3))]) R R R R C6 R lb (by kernel_rfl))<|za R R<|znr<|zm R R<|za R R<|zn<|zt<|z1 R R (R)
theorem Art  :XC Tryz.prog 106 [.v (.int .i64 6)] (fun r=>r= .tup [.agg [.v (.string ⟨#[109,101,122,122,111,115,111,112,114,97,110,111]⟩), .v (.int .u8 67),dI (-2),dI 0,dI 30,dI (-2),dI (-3)],dI 0]):=by
 refine Aj Ej Tryz.func106 R R lb<|zr<|XL.step R (Al 2 (l:= [.d (.v (.string ⟨#[]⟩)), .d (.v (.int .u8 0)), .d (dI 0), .d (dI 0), .d (dI 0), .d (dI 0), .d (dI 0)]) R Ca (by kernel_rfl))<|za R R<|zn<|zs<|zr<|zm R R<|zp (Cm (Ar R R R) (by decide))<|zm R R<|zm R R<|zp (Cm (A5 R R R) (by decide))<|zq R R R<|zn<|?_
 refine Av (by kernel_rfl) R<|zi<|zr<|XL.call1 R R (Hk) R<|zm R R<|zp (Dr R R R (by decide) (by decide))<|zp (Ae (s':= .d (.agg ([.v (.string ⟨#[109,101,122,122,111,115,111,112,114,97,110,111]⟩), .v (.int .u8 67),dI (-2),dI 0,dI 30,dI (-2),dI (-3)]))) (Hh (k:=5) R R R R Tryz.underlying195 D5 C6 (by decide) (by decide)) (by kernel_rfl))<|?_
 refine XL.step R (Ag (l':= [.d (.v (.string ⟨#[109,101,122,122,111,115,111,112,114,97,110,111]⟩)), .d (.v (.int .u8 67)), .d (dI (-2)), .d (dI 0), .d (dI 30), .d (dI (-2)), .d (dI (-3))]) R R R R C6 R lb (by kernel_rfl))<|za R R<|zn<|zt<|?_
 exact Az R (RV.cells R R R D5 lb R) (RV.tmp R R) (R)
theorem Amz  :XC Tryz.prog 75 [.v (.int .i64 6)] (fun r=>r=dI 0):=by
 refine Aj Eu Tryz.func75 R R lb<|zr<|za R R<|znr<|zm R R<|XL.call1 R R (Art) R<|zm R R<|zp (An R R R)<|zp (An R R R)<|XL.step R (Al 3 (l:= [.d (.v (.string ⟨#[]⟩)), .d (.v (.int .u8 0)), .d (dI 0), .d (dI 0), .d (dI 0), .d (dI 0), .d (dI 0)]) R Ca (by kernel_rfl))<|?_
 exact XL.step R (Ag (l':= [.d (.v (.string ⟨#[109,101,122,122,111,115,111,112,114,97,110,111]⟩)), .d (.v (.int .u8 67)), .d (dI (-2)), .d (dI 0), .d (dI 30), .d (dI (-2)), .d (dI (-3))]) R R R R C6 R lb (by kernel_rfl))<|za R R<|znr<|zm R R<|za R R<|zn<|zt<|z1 R R (R)
theorem Ars  :XC Tryz.prog 106 [.v (.int .i64 7)] (fun r=>r= .tup [.agg [.v (.string ⟨#[98,97,114,105,116,111,110,101]⟩), .v (.int .u8 70),dI 0,dI 0,dI 24,dI (-2),dI (-3)],dI 0]):=by
 refine Aj Ej Tryz.func106 R R lb<|zr<|XL.step R (Al 2 (l:= [.d (.v (.string ⟨#[]⟩)), .d (.v (.int .u8 0)), .d (dI 0), .d (dI 0), .d (dI 0), .d (dI 0), .d (dI 0)]) R Ca (by kernel_rfl))<|za R R<|zn<|zs<|zr<|zm R R<|zp (Cm (Ar R R R) (by decide))<|zm R R<|zm R R<|zp (Cm (A5 R R R) (by decide))<|zq R R R<|zn<|?_
 refine Av (by kernel_rfl) R<|zi<|zr<|XL.call1 R R (Hk) R<|zm R R<|zp (Dr R R R (by decide) (by decide))<|zp (Ae (s':= .d (.agg ([.v (.string ⟨#[98,97,114,105,116,111,110,101]⟩), .v (.int .u8 70),dI 0,dI 0,dI 24,dI (-2),dI (-3)]))) (Hh (k:=6) R R R R Tryz.underlying195 D5 C6 (by decide) (by decide)) (by kernel_rfl))<|?_
 refine XL.step R (Ag (l':= [.d (.v (.string ⟨#[98,97,114,105,116,111,110,101]⟩)), .d (.v (.int .u8 70)), .d (dI 0), .d (dI 0), .d (dI 24), .d (dI (-2)), .d (dI (-3))]) R R R R C6 R lb (by kernel_rfl))<|za R R<|zn<|zt<|?_
 exact Az R (RV.cells R R R D5 lb R) (RV.tmp R R) (R)
theorem Amy  :XC Tryz.prog 75 [.v (.int .i64 7)] (fun r=>r=dI 0):=by
 refine Aj Eu Tryz.func75 R R lb<|zr<|za R R<|znr<|zm R R<|XL.call1 R R (Ars) R<|zm R R<|zp (An R R R)<|zp (An R R R)<|XL.step R (Al 3 (l:= [.d (.v (.string ⟨#[]⟩)), .d (.v (.int .u8 0)), .d (dI 0), .d (dI 0), .d (dI 0), .d (dI 0), .d (dI 0)]) R Ca (by kernel_rfl))<|?_
 exact XL.step R (Ag (l':= [.d (.v (.string ⟨#[98,97,114,105,116,111,110,101]⟩)), .d (.v (.int .u8 70)), .d (dI 0), .d (dI 0), .d (dI 24), .d (dI (-2)), .d (dI (-3))]) R R R R C6 R lb (by kernel_rfl))<|za R R<|znr<|zm R R<|za R R<|zn<|zt<|z1 R R (R)
theorem Arr  :XC Tryz.prog 106 [.v (.int .i64 8)] (fun r=>r= .tup [.agg [.v (.string ⟨#[116,114,101,98,108,101,56]⟩), .v (.int .u8 71),dI (-2),dI (-1),dI 27,dI (-1),dI (-3)],dI 0]):=by
 refine Aj Ej Tryz.func106 R R lb<|zr<|XL.step R (Al 2 (l:= [.d (.v (.string ⟨#[]⟩)), .d (.v (.int .u8 0)), .d (dI 0), .d (dI 0), .d (dI 0), .d (dI 0), .d (dI 0)]) R Ca (by kernel_rfl))<|za R R<|zn<|zs<|zr<|zm R R<|zp (Cm (Ar R R R) (by decide))<|zm R R<|zm R R<|zp (Cm (A5 R R R) (by decide))<|zq R R R<|zn<|?_
 refine Av (by kernel_rfl) R<|zi<|zr<|XL.call1 R R (Hk) R<|zm R R<|zp (Dr R R R (by decide) (by decide))<|zp (Ae (s':= .d (.agg ([.v (.string ⟨#[116,114,101,98,108,101,56]⟩), .v (.int .u8 71),dI (-2),dI (-1),dI 27,dI (-1),dI (-3)]))) (Hh (k:=7) R R R R Tryz.underlying195 D5 C6 (by decide) (by decide)) (by kernel_rfl))<|?_
 refine XL.step R (Ag (l':= [.d (.v (.string ⟨#[116,114,101,98,108,101,56]⟩)), .d (.v (.int .u8 71)), .d (dI (-2)), .d (dI (-1)), .d (dI 27), .d (dI (-1)), .d (dI (-3))]) R R R R C6 R lb (by kernel_rfl))<|za R R<|zn<|zt<|?_
 exact Az R (RV.cells R R R D5 lb R) (RV.tmp R R) (R)
theorem Amx  :XC Tryz.prog 75 [.v (.int .i64 8)] (fun r=>r=dI 0):=by
 refine Aj Eu Tryz.func75 R R lb<|zr<|za R R<|znr<|zm R R<|XL.call1 R R (Arr) R<|zm R R<|zp (An R R R)<|zp (An R R R)<|XL.step R (Al 3 (l:= [.d (.v (.string ⟨#[]⟩)), .d (.v (.int .u8 0)), .d (dI 0), .d (dI 0), .d (dI 0), .d (dI 0), .d (dI 0)]) R Ca (by kernel_rfl))<|?_
 exact XL.step R (Ag (l':= [.d (.v (.string ⟨#[116,114,101,98,108,101,56]⟩)), .d (.v (.int .u8 71)), .d (dI (-2)), .d (dI (-1)), .d (dI 27), .d (dI (-1)), .d (dI (-3))]) R R R R C6 R lb (by kernel_rfl))<|za R R<|znr<|zm R R<|za R R<|zn<|zt<|z1 R R (R)
theorem Arq  :XC Tryz.prog 106 [.v (.int .i64 9)] (fun r=>r= .tup [.agg [.v (.string ⟨#[98,97,115,115,56]⟩), .v (.int .u8 70),dI 2,dI (-1),dI 15,dI (-3),dI (-5)],dI 0]):=by
 refine Aj Ej Tryz.func106 R R lb<|zr<|XL.step R (Al 2 (l:= [.d (.v (.string ⟨#[]⟩)), .d (.v (.int .u8 0)), .d (dI 0), .d (dI 0), .d (dI 0), .d (dI 0), .d (dI 0)]) R Ca (by kernel_rfl))<|za R R<|zn<|zs<|zr<|zm R R<|zp (Cm (Ar R R R) (by decide))<|zm R R<|zm R R<|zp (Cm (A5 R R R) (by decide))<|zq R R R<|zn<|?_
 refine Av (by kernel_rfl) R<|zi<|zr<|XL.call1 R R (Hk) R<|zm R R<|zp (Dr R R R (by decide) (by decide))<|zp (Ae (s':= .d (.agg ([.v (.string ⟨#[98,97,115,115,56]⟩), .v (.int .u8 70),dI 2,dI (-1),dI 15,dI (-3),dI (-5)]))) (Hh (k:=8) R R R R Tryz.underlying195 D5 C6 (by decide) (by decide)) (by kernel_rfl))<|?_
 refine XL.step R (Ag (l':= [.d (.v (.string ⟨#[98,97,115,115,56]⟩)), .d (.v (.int .u8 70)), .d (dI 2), .d (dI (-1)), .d (dI 15), .d (dI (-3)), .d (dI (-5))]) R R R R C6 R lb (by kernel_rfl))<|za R R<|zn<|zt<|?_
 exact Az R (RV.cells R R R D5 lb R) (RV.tmp R R) (R)
theorem Amw  :XC Tryz.prog 75 [.v (.int .i64 9)] (fun r=>r=dI 0):=by
 refine Aj Eu Tryz.func75 R R lb<|zr<|za R R<|znr<|zm R R<|XL.call1 R R (Arq) R<|zm R R<|zp (An R R R)<|zp (An R R R)<|XL.step R (Al 3 (l:= [.d (.v (.string ⟨#[]⟩)), .d (.v (.int .u8 0)), .d (dI 0), .d (dI 0), .d (dI 0), .d (dI 0), .d (dI 0)]) R Ca (by kernel_rfl))<|?_
 exact XL.step R (Ag (l':= [.d (.v (.string ⟨#[98,97,115,115,56]⟩)), .d (.v (.int .u8 70)), .d (dI 2), .d (dI (-1)), .d (dI 15), .d (dI (-3)), .d (dI (-5))]) R R R R C6 R lb (by kernel_rfl))<|za R R<|znr<|zm R R<|za R R<|zn<|zt<|z1 R R (R)
theorem Arp (c:Int) (h:c<1∨9<c):XC Tryz.prog 106 [.v (.int .i64 c)] (fun r=>r= .tup [.agg [.v (.string ⟨#[]⟩), .v (.int .u8 0),dI 0,dI 0,dI 0,dI 0,dI 0],dI 11]):=by
 refine Aj Ej Tryz.func106 R R lb<|zr<|XL.step R (Al 2 (l:= [.d (.v (.string ⟨#[]⟩)), .d (.v (.int .u8 0)), .d (dI 0), .d (dI 0), .d (dI 0), .d (dI 0), .d (dI 0)]) R Ca (by kernel_rfl))<|za R R<|zn<|zs<|zr<|zm R R<|zp (Ar R R R)<|zm R R<|?_
 refine XL.dec 6 R (fun g6=> ?_) (fun g6=> ?_)
 refine zk 2 R<|zq R R R<|zn<|Au (by kernel_rfl) R<|zr<|zp (Ae (s':= .d (.agg [.v (.string ⟨#[]⟩), .v (.int .u8 0),dI 0,dI 0,dI 0,dI 0,dI 0])) (Aa (Ao R G3 Ca R)) (by kernel_rfl))<|XL.step R (Ag (l':= [.d (.v (.string ⟨#[]⟩)), .d (.v (.int .u8 0)), .d (dI 0), .d (dI 0), .d (dI 0), .d (dI 0), .d (dI 0)]) R R R R C6 R lb (by kernel_rfl))<|za R R<|zn<|zt<|?_
 exact Az R (RV.cells R R R D5 lb R) (RV.tmp R R) (R)
 refine zm R R<|zp (A5 R R R)<|zq R R R<|zn<|?_
 refine zd R (fun c9=> ?_) (fun c9=> ?_)
 refine zr<|zp (Ae (s':= .d (.agg [.v (.string ⟨#[]⟩), .v (.int .u8 0),dI 0,dI 0,dI 0,dI 0,dI 0])) (Aa (Ao R G3 Ca R)) (by kernel_rfl))<|XL.step R (Ag (l':= [.d (.v (.string ⟨#[]⟩)), .d (.v (.int .u8 0)), .d (dI 0), .d (dI 0), .d (dI 0), .d (dI 0), .d (dI 0)]) R R R R C6 R lb (by kernel_rfl))<|za R R<|zn<|zt<|?_
 exact Az R (RV.cells R R R D5 lb R) (RV.tmp R R) (R)
 exfalso;omega
theorem Amv (c:Int) (h:c<1∨9<c):XC Tryz.prog 75 [.v (.int .i64 c)] (fun r=>r=dI 11):=by
 refine Aj Eu Tryz.func75 R R lb<|zr<|za R R<|znr<|zm R R<|XL.call1 R R (Arp _ h) R<|zm R R<|zp (An R R R)<|zp (An R R R)<|XL.step R (Al 3 (l:= [.d (.v (.string ⟨#[]⟩)), .d (.v (.int .u8 0)), .d (dI 0), .d (dI 0), .d (dI 0), .d (dI 0), .d (dI 0)]) R Ca (by kernel_rfl))<|?_
 exact XL.step R (Ag (l':= [.d (.v (.string ⟨#[]⟩)), .d (.v (.int .u8 0)), .d (dI 0), .d (dI 0), .d (dI 0), .d (dI 0), .d (dI 0)]) R R R R C6 R lb (by kernel_rfl))<|za R R<|znr<|zm R R<|za R R<|zn<|zt<|z1 R R (R)
theorem Ap7 (c:Int):XC Tryz.prog 75 [dI c] (fun r=>r=dI (cfE c)):=by
 by_cases h:c<1∨9<c
 ·rw [←Au0 h];exact Amv c h
 ·rw [show cfE c=0 by rw [cfE,if_neg h]]
  have h':c=1∨c=2∨c=3∨c=4∨c=5∨c=6∨c=7∨c=8∨c=9:=by omega
  rcases h' with rfl|rfl|rfl|rfl|rfl|rfl|rfl|rfl|rfl
  ·exact Am4
  ·exact Am3
  ·exact Am2
  ·exact Am1
  ·exact Am0
  ·exact Amz
  ·exact Amy
  ·exact Amx
  ·exact Amw
end Go.Proofs.YtaafemnkamfgnaaGreat
namespace Go.Proofs.YtaafemnkamfgnaaGreat
open Go.RowKit
def clF (l:List Cf) (b t:Int):Int:=l.foldl (fun b c=>if c.tk≤t then c.clef else b) b
def Ms.cell (m:Ms) (s:Int):Ce:=(m.cells[s.toNat]?).getD ⟨[], []⟩
def clA (m:Ms) (s b t:Int):Int × Int:=if s<0∨(m.cells.length:Int)≤s then (0,2) else if cfE b≠0 then (0,cfE b) else (clF (m.cell s).clefs b t,0)
end Go.Proofs.YtaafemnkamfgnaaGreat
namespace Go.Proofs.YtaafemnkamfgnaaGreat
open Go.RowKit
def fsE (f:Nat→Int):Nat→Int
 |0=>0
 |n+1=>if fsE f n≠0 then fsE f n else f n
theorem Q2 {f:Nat→Int}:∀{n:Nat},(∀j,j<n→f j=0)→fsE f n=0
 |0,_=>rfl
 |n+1,h=>by rw [fsE,Q2 fun j hj=>h j (by omega),if_neg (by decide)];exact h n (by omega)
theorem Y2 {f:Nat→Int} {k:Nat} (h:fsE f k≠0):∀{n:Nat},k≤n→fsE f n=fsE f k
 |0,hn=>by rw [show k=0 by omega]
 |n+1,hn=>by
  by_cases e:k=n+1
  ·rw [e]
  ·have ih:=Y2 h (n:=n) (by omega)
   rw [fsE,ih,if_pos h]
theorem I5 {f:Nat→Int} {k n:Nat} (h:∀j,j<k→f j=0) (hk:k<n) (h2:f k≠0):fsE f n=f k:=by
 have e:fsE f (k+1)=f k:=by rw [fsE,Q2 h,if_neg (by decide)]
 rw [Y2 (k:=k+1) (by rw [e];exact h2) hk,e]
theorem Mx {f:Nat→Int} {k:Nat} (h:∀j,j<k→f j=0) (h2:f k=0):∀j,j<k+1→f j=0:=fun j hj=>by
 by_cases e:j=k
 ·rw [e];exact h2
 ·exact h j (by omega)
theorem Yf {f:Nat→Int}:∀j,j<0→f j=0:=fun j h=>absurd h (Nat.not_lt_zero _)
def Ko (L:Int) (l:List Cf) (i:Nat):Int:=
 match l[i]? with
 |none=>0
 |some x=>if cfE x.clef≠0 then cfE x.clef else if x.tk<0∨L≤x.tk then 2 else
  match l[i - 1]? with
  |none=>0
  |some y=>if 0<i∧x.tk≤y.tk then 25 else 0
def Ji (L:Int) (l:List Cf):Int:=fsE (Ko L l) l.length
theorem As4 {L:Int} {l:List Cf} {i:Nat} {x:Cf} (h:l[i]? =some x) (h1:cfE x.clef≠0):Ko L l i=cfE x.clef:=by rw [Ko,h];simp only;rw [if_pos h1]
theorem Aj4 {L:Int} {l:List Cf} {i:Nat} {x:Cf} (h:l[i]? =some x) (h1:¬cfE x.clef≠0) (h2:x.tk<0∨L≤x.tk):Ko L l i=2:=by rw [Ko,h];simp only;rw [if_neg h1,if_pos h2]
theorem As3 {L:Int} {l:List Cf} {i:Nat} {x y:Cf} (h:l[i]? =some x) (hy:l[i - 1]? =some y) (h1:¬cfE x.clef≠0) (h2:¬(x.tk<0∨L≤x.tk)) (h3:0<i∧x.tk≤y.tk):Ko L l i=25:=by
 rw [Ko,h];simp only;rw [if_neg h1,if_neg h2,hy];simp only;rw [if_pos h3]
theorem Aj3 {L:Int} {l:List Cf} {i:Nat} {x:Cf} (h:l[i]? =some x) (h1:¬cfE x.clef≠0) (h2:¬(x.tk<0∨L≤x.tk)) (h3:i=0∨∀y,l[i - 1]? =some y→¬x.tk≤y.tk):Ko L l i=0:=by
 rw [Ko,h];simp only;rw [if_neg h1,if_neg h2]
 cases hy:l[i - 1]? with
 |none=>rfl
 |some y=>
  simp only
  rw [if_neg]
  rintro ⟨q1,q2⟩
  rcases h3 with h3|h3
  ·omega
  ·exact h3 y hy q2
def vAt (L:Int) (l:List Vo) (i:Nat):Int:=match l[i]? with|none=>0|some v=>vE L v
theorem Tg {L:Int} {l:List Vo} {i:Nat} {v:Vo} (h:l[i]? =some v):vAt L l i=vE L v:=by rw [vAt,h]
def ceE (L:Int) (c:Ce):Int:=if Ji L c.clefs≠0 then Ji L c.clefs else if 2<(c.voices.length:Int) then 9 else
 match c.voices[0]? with
 |none=>10
 |some v=>if v.evs.length=0 then 10 else fsE (vAt L c.voices) c.voices.length
theorem Aud {L:Int} {c:Ce} (h:Ji L c.clefs≠0):ceE L c=Ji L c.clefs:=by rw [ceE,if_pos h]
theorem Auc {L:Int} {c:Ce} (h:¬Ji L c.clefs≠0) (h2:2<(c.voices.length:Int)):ceE L c=9:=by rw [ceE,if_neg h,if_pos h2]
theorem Aub {L:Int} {c:Ce} (h:¬Ji L c.clefs≠0) (h2:¬2<(c.voices.length:Int)) (h3:c.voices.length=0):ceE L c=10:=by
 rw [ceE,if_neg h,if_neg h2,List.getElem?_eq_none (by omega)]
theorem Aua {L:Int} {c:Ce} {v:Vo} (h:¬Ji L c.clefs≠0) (h2:¬2<(c.voices.length:Int)) (hv:c.voices[0]? =some v) (h3:v.evs.length=0):ceE L c=10:=by
 rw [ceE,if_neg h,if_neg h2,hv];simp only;rw [if_pos h3]
theorem Anz {L:Int} {c:Ce} {v:Vo} (h:¬Ji L c.clefs≠0) (h2:¬2<(c.voices.length:Int)) (hv:c.voices[0]? =some v) (h3:¬v.evs.length=0):ceE L c=fsE (vAt L c.voices) c.voices.length:=by
 rw [ceE,if_neg h,if_neg h2,hv];simp only;rw [if_neg h3]
def Zi (L:Int) (l:List Ce) (i:Nat):Int:=match l[i]? with|none=>0|some c=>ceE L c
theorem Ae0 {L:Int} {l:List Ce} {i:Nat} {c:Ce} (h:l[i]? =some c):Zi L l i=ceE L c:=by rw [Zi,h]
def chE (m:Ms) (n:Int):Int:=if mlE m.h.m m.h.len≠0 then mlE m.h.m m.h.len else if m.h.fifths< -7∨7<m.h.fifths then 2 else if (m.cells.length:Int)≠n then 20 else fsE (Zi (mlV m.h.m m.h.len) m.cells) m.cells.length
theorem At8 {m:Ms} {n:Int} (h:mlE m.h.m m.h.len≠0):mlE m.h.m m.h.len=chE m n:=by rw [chE,if_pos h]
theorem Anw {m:Ms} {n:Int} (h:¬mlE m.h.m m.h.len≠0) (h2:m.h.fifths< -7∨7<m.h.fifths):2=chE m n:=by rw [chE,if_neg h,if_pos h2]
theorem At7 {m:Ms} {n:Int} (h:¬mlE m.h.m m.h.len≠0) (h2:¬(m.h.fifths< -7∨7<m.h.fifths)) (h3:(m.cells.length:Int)≠n):20=chE m n:=by rw [chE,if_neg h,if_neg h2,if_pos h3]
theorem Kx {m:Ms} {n:Int} (h:¬mlE m.h.m m.h.len≠0) (h2:¬(m.h.fifths< -7∨7<m.h.fifths)) (h3:¬(m.cells.length:Int)≠n):chE m n=fsE (Zi (mlV m.h.m m.h.len) m.cells) m.cells.length:=by rw [chE,if_neg h,if_neg h2,if_neg h3]
theorem As5 {m:Ms} (h:m.evs) {k:Nat} {c:Ce} (hc:m.cells[k]? =some c):∀v∈c.voices,Evs v.evs:=h c (List.mem_of_getElem? hc)
theorem Uh {L:Int} {l:List Cf} {k:Nat} {e:Int} (h:∀j,j<k→Ko L l j=0) (hk:k<l.length) (h2:Ko L l k=e) (h3:e≠0):Ji L l=e:=by rw [Ji,I5 h hk (by rw [h2];exact h3),h2]
theorem At9 {L:Int} {l:List Cf} {k:Nat} (h:∀j,j<k→Ko L l j=0) (hk:¬k<l.length):¬Ji L l≠0:=by rw [Ji,Q2 (fun j hj=>h j (by omega))];decide
theorem Q5 {L:Int} {c:Ce} {e:Int} (h:Ji L c.clefs=e) (h2:e≠0):ceE L c=e:=by rw [Aud (by rw [h];exact h2),h]
theorem Au1 {L:Int} {c:Ce} {v w:Vo} {k:Nat} {e:Int} (h:¬Ji L c.clefs≠0) (h2:¬2<(c.voices.length:Int)) (hv:c.voices[0]? =some v) (h3:¬v.evs.length=0) (hf:∀j,j<k→vAt L c.voices j=0) (hw:c.voices[k]? =some w) (h4:vE L w=e) (h5:e≠0):ceE L c=e:=by
 rw [Anz h h2 hv h3,I5 hf (List.getElem?_eq_some_iff.1 hw).1 (by rw [Tg hw,h4];exact h5),Tg hw,h4]
theorem Anx {L:Int} {c:Ce} {v:Vo} {k:Nat} (h:¬Ji L c.clefs≠0) (h2:¬2<(c.voices.length:Int)) (hv:c.voices[0]? =some v) (h3:¬v.evs.length=0) (hf:∀j,j<k→vAt L c.voices j=0) (hk:¬k<c.voices.length):ceE L c=0:=by
 rw [Anz h h2 hv h3,Q2 (fun j hj=>hf j (by omega))]
theorem Aix (m:Ms) (n:Int) (hE:m.evs):XC Tryz.prog 49 [.agg (Ms.c m), .v (.int .i64 n)] (fun r=>r=dI (chE m n)):=by
 refine Aj Adh Tryz.func49 R R lb<|zr<|?_
 refine XL.step R (Aq 2 (l:= [.d (dI m.h.site), .d (dI m.h.num), .d (dI m.h.m.count), .d (dI m.h.m.unit), .d (dI m.h.m.g0), .d (dI m.h.m.g1), .d (dI m.h.m.g2), .d (dI m.h.m.g3), .d (dI m.h.m.g4), .d (dI m.h.m.g5), .d (dI m.h.len), .d (dI m.h.fifths), .d (dB m.h.start), .d (dI m.h.fin), .d (dI m.h.ends), .d (dI m.h.jump), .d (dI m.h.labels), .d (dI m.h.swing), .d (dI m.h.brk), .d (.v (.string ⟨m.h.reh.toArray⟩)), .d (.sl 3 (m.tempi.map Tm.c)), .d (.sl 2 (m.cells.map Ce.c))]) R R (by kernel_rfl))<|?_
 refine za R R<|znr<|zp (Ae (s':= .d (.agg (Ms.c m))) (Aa (Ad R R A1 R lb)) (by kernel_rfl))<|XL.call1 R R (Aiu m.h m.tempi m.cells) R<|zm R R<|zp (An R R R)<|zp (An R R R)<|za R R<|za R R<|zn<|zs<|Ah<|zr<|zm R R<|?_
 refine zp (As R R R)<|za R R<|zn<|?_
 refine zd R (fun c18=> ?_) (fun c18=> ?_)
 exact zr<|zm R R<|za R R<|zn<|zt<|z1 R R (rI (At8 (by assumption)))
 refine zr<|zp (Ac R R S4)<|zp (Ab R R Ai R R)<|zp (Ar R R R)<|zm R R<|?_
 refine XL.dec 26 R (fun g26=> ?_) (fun g26=> ?_)
 exact zk 3 R<|zq R R R<|za R R<|zn<|Au (by kernel_rfl) R<|zr<|za R R<|zn<|zt<|z1 R R (rI (Anw (by omega) (by omega)))
 refine zp (Ac R R S4)<|zp (Ab R R Ai R R)<|zp (A5 R R R)<|zq R R R<|za R R<|zn<|?_
 refine zd R (fun c22=> ?_) (fun c22=> ?_)
 exact zr<|za R R<|zn<|zt<|z1 R R (rI (Anw (by omega) (by omega)))
 refine zr<|zp (Ac R R C2)<|zp (Ab R R G1 R R)<|XL.len R R R Tryz.underlying28 fun hl34=>zm R R<|zp (As R R R)<|za R R<|zn<|?_
 refine zd R (fun c31=> ?_) (fun c31=> ?_)
 exact zr<|za R R<|zn<|zt<|z1 R R (rI (At7 (by omega) (by omega) (by omega)))
 refine zi<|zs<|zr<|za R R<|zn<|Ah<|?_
 refine A6 (α:=Nat) (fun k=>k≤m.cells.length∧∀j,j<k→Zi (mlV m.h.m m.h.len) m.cells j=0) (fun k=>mkF [(2, .ptr 2 0 0),(5, .d (dI (mlV m.h.m m.h.len))),(7, .d (dI k))]) (fun k=>mkH [(2, .box ((Ms.c m).map S.d))]) (fun k=>m.cells.length - k) (0) (⟨Nat.zero_le _,Yf⟩) ?_ ?_ ?_
 exact fz ⟨sr,sr,sr,trivial⟩
 exact gz ⟨R,trivial⟩
 intro k hk1
 obtain ⟨hk,hf⟩:=hk1
 refine zs<|zr<|zm R R<|zp (Ac R R C2)<|zp (Ab R R G1 R R)<|XL.len R R R Tryz.underlying28 fun hl40=>zp (Ar R R R)<|zn<|?_
 refine zd R (fun c41=> ?_) (fun c41=> ?_)
 have hkl:k<m.cells.length:=by omega
 obtain ⟨x,hx⟩:=A3 hkl
 have hEv:=As5 hE hx
 have hca:=Ae0 (L:=(mlV m.h.m m.h.len)) hx
 refine zi<|zs<|Ah<|zr<|zp (Ac R R C2)<|zp (Ab R R G1 R R)<|zm R R<|zp (At R R R Ni (hx))<|zp (Ae (s':= .d (.agg (Ce.c x))) (A9 R R I6 lb) (by kernel_rfl))<|XL.step R (Al 8 (l:= [.d (.v (.slice none 0 0)), .d (.v (.slice none 0 0))]) R Eo (by kernel_rfl))<|?_
 refine XL.step R (Ag (l':= [.d (.sl 2 (x.clefs.map Cf.c)), .d (.sl 2 (x.voices.map Vo.c))]) R R R R I7 R lb (by kernel_rfl))<|zn<|zs<|zr<|za R R<|zn<|Ah<|?_
 refine A6 (α:=Nat) (fun j=>j≤x.clefs.length∧∀i,i<j→Ko (mlV m.h.m m.h.len) x.clefs i=0) (fun j=>mkF [(2, .ptr 2 0 0),(5, .d (dI (mlV m.h.m m.h.len))),(7, .d (dI k)),(8, .ptr 8 0 0),(9, .d (dI j))]) (fun j=>mkH [(2, .box ((Ms.c m).map S.d)),(8, .box ((Ce.c x).map S.d))]) (fun j=>x.clefs.length - j) (0) (⟨Nat.zero_le _,Yf⟩) ?_ ?_ ?_
 exact fz ⟨sr,sr,sr,sr,sr,trivial⟩
 exact gz ⟨R,R,trivial⟩
 intro j hk3
 obtain ⟨hj,hf3⟩:=hk3
 refine zs<|zr<|zm R R<|zp (Ac R R Fw)<|zp (Ab R R Kq R R)<|XL.len R R R Tryz.underlying75 fun hl52=>zp (Ar R R R)<|zn<|?_
 refine zd R (fun c53=> ?_) (fun c53=> ?_)
 have hjl:j<x.clefs.length:=by omega
 obtain ⟨y,hy⟩:=A3 hjl
 refine zi<|zs<|Ah<|zs<|zr<|zp (Ac R R Fw)<|zp (Ab R R Kq R R)<|zm R R<|zp (At R R R Jc (hy))<|zp (Ff R R Al3)<|zp (Bb R R Ai)<|XL.call1 R R (Ap7 _) R<|za R R<|znr<|?_
 refine zm R R<|zp (As R R R)<|zn<|?_
 refine zd R (fun c64=> ?_) (fun c64=> ?_)
 exact zr<|zm R R<|za R R<|zn<|zt<|z1 R R (rI (by have e:=Q5 (Uh hf3 hjl (As4 (L:=(mlV m.h.m m.h.len)) hy (by assumption)) (by assumption)) (by assumption);rw [Kx (by omega) (by omega) (by omega),I5 hf (by omega) (by rw [hca,e];first|assumption|decide),hca,e]))
 refine zi<|zs<|zr<|zp (Ac R R Fw)<|zp (Ab R R Kq R R)<|zm R R<|zp (At R R R Jc (hy))<|zp (Ff R R Mp)<|zp (Bb R R Ai)<|zp (Ar R R R)<|zm R R<|?_
 refine XL.dec 73 R (fun g73=> ?_) (fun g73=> ?_)
 exact zk 8 R<|zq R R R<|zn<|Au (by kernel_rfl) R<|zr<|za R R<|zn<|zt<|z1 R R (rI (by have e:=Q5 (Uh hf3 hjl (Aj4 (L:=(mlV m.h.m m.h.len)) hy (by omega) (by omega)) (by decide)) (by decide);rw [Kx (by omega) (by omega) (by omega),I5 hf (by omega) (by rw [hca,e];first|assumption|decide),hca,e]))
 refine zp (Ac R R Fw)<|zp (Ab R R Kq R R)<|zm R R<|zp (At R R R Jc (hy))<|zp (Ff R R Mp)<|zp (Bb R R Ai)<|zm R R<|zp (Fz R R R)<|zq R R R<|zn<|?_
 refine zd R (fun c82=> ?_) (fun c82=> ?_)
 exact zr<|za R R<|zn<|zt<|z1 R R (rI (by have e:=Q5 (Uh hf3 hjl (Aj4 (L:=(mlV m.h.m m.h.len)) hy (by omega) (by omega)) (by decide)) (by decide);rw [Kx (by omega) (by omega) (by omega),I5 hf (by omega) (by rw [hca,e];first|assumption|decide),hca,e]))
 refine zi<|zs<|?_
 by_cases q84:(0:Int)<(j:Int)
 have hi1:(j:Int) - 1=((j - 1:Nat):Int):=by omega
 obtain ⟨z,hz⟩:∃z,x.clefs[j - 1]? =some z:=A3 (by omega)
 refine Be [] (by kernel_rfl) (by kernel_rfl) (by kernel_rfl) (by decide)<|ym R R<|yp (Cd (A5 R R R) (q84))<|ym R R<|yp (Ac R R Fw)<|yp (Ab R R Kq R R)<|ym R R<|yp (At R R R Jc (hy))<|yp (Ff R R Mp)<|yp (Bb R R Ai)<|yp (Ac R R Fw)<|yp (Ab R R Kq R R)<|ym R R<|yp (Dr R R R (by omega) (by omega))<|?_
 refine yp (J0 R R R (hi1) Jc (hz))<|yp (Ff R R Mp)<|yp (Bb R R Ai)<|yp (Jy R R R)<|yp (A4 R R (by conv=>lhs;whnf))<|?_
 refine ChK.nil ⟨by kernel_rfl, ?_⟩
 refine zd R (fun c100=> ?_) (fun c100=> ?_)
 exact zr<|za R R<|zn<|zt<|z1 R R (rI (by have e:=Q5 (Uh hf3 hjl (As3 (L:=(mlV m.h.m m.h.len)) hy hz (by omega) (by omega) (by omega)) (by decide)) (by decide);rw [Kx (by omega) (by omega) (by omega),I5 hf (by omega) (by rw [hca,e];first|assumption|decide),hca,e]))
 refine zi<|Af (by kernel_rfl)<|zm R R<|zp (Am R R R (by omega) (by omega))<|za R R<|zn<|?_
 exact Ap (j+1) (⟨by omega,Mx hf3 (Aj3 hy (by omega) (by omega) (.inr fun z' hz'=>by rw [hz] at hz';cases hz';omega))⟩) (by omega) (fz ⟨sr,sr,sr,sr,sr,trivial⟩) (gz ⟨rfl,rfl,trivial⟩)
 refine Be [] (by kernel_rfl) (by kernel_rfl) (by kernel_rfl) (by decide)<|ym R R<|yp (Cm (A5 R R R) (q84))<|ym R R<|ChK.skip R<|ChK.skip R<|ChK.skip R<|ChK.skip R<|ChK.skip R<|ChK.skip R<|ChK.skip R<|ChK.skip R<|ChK.skip R<|ChK.skip R<|?_
 refine ChK.skip R<|ChK.skip R<|ChK.skip R<|ChK.skip R<|yp (A4 R R (by conv=>lhs;whnf))<|?_
 refine ChK.nil ⟨by kernel_rfl, ?_⟩
 refine Av (by kernel_rfl) R<|zi<|Af (by kernel_rfl)<|zm R R<|zp (Am R R R (by omega) (by omega))<|za R R<|zn<|?_
 exact Ap (j+1) (⟨by omega,Mx hf3 (Aj3 hy (by omega) (by omega) (.inl (by omega)))⟩) (by omega) (fz ⟨sr,sr,sr,sr,sr,trivial⟩) (gz ⟨rfl,rfl,trivial⟩)
 have cf:=At9 hf3 (by omega)
 refine A0<|zs<|Ah<|zr<|zp (Ac R R D0)<|zp (Ab R R Gi R R)<|XL.len R R R Tryz.underlying76 fun hl104=>zp (A5 R R R)<|za R R<|zn<|?_
 refine zd R (fun c101=> ?_) (fun c101=> ?_)
 exact zr<|za R R<|zn<|zt<|z1 R R (rI (by have e:=Auc cf (by omega);rw [Kx (by omega) (by omega) (by omega),I5 hf (by omega) (by rw [hca,e];first|assumption|decide),hca,e]))
 refine zr<|zp (Ac R R D0)<|zp (Ab R R Gi R R)<|XL.len R R R Tryz.underlying76 fun hl109=>zp (A8 R R R)<|zm R R<|?_
 refine XL.dec 111 R (fun g111=> ?_) (fun g111=> ?_)
 exact zk 7 R<|zq R R R<|za R R<|zn<|Au (by kernel_rfl) R<|zr<|za R R<|zn<|zt<|z1 R R (rI (by have e:=Aub cf (by omega) (by omega);rw [Kx (by omega) (by omega) (by omega),I5 hf (by omega) (by rw [hca,e];first|assumption|decide),hca,e]))
 refine zp (Ac R R D0)<|zp (Ab R R Gi R R)<|?_
 obtain ⟨v,hv⟩:∃v,x.voices[0]? =some v:=A3 (by omega)
 refine zp (At (k:=0) R R R Kv (hv))<|zp (Ff R R B2)<|zp (Bb R R De)<|XL.len R R R Tryz.underlying79 fun hl117=>zp (A8 R R R)<|zq R R R<|za R R<|zn<|?_
 refine zd R (fun c106=> ?_) (fun c106=> ?_)
 exact zr<|za R R<|zn<|zt<|z1 R R (rI (by have e:=Aua cf (by omega) hv (by omega);rw [Kx (by omega) (by omega) (by omega),I5 hf (by omega) (by rw [hca,e];first|assumption|decide),hca,e]))
 refine zi<|zr<|za R R<|zn<|Ah<|?_
 refine A6 (α:=Nat) (fun i=>i≤x.voices.length∧∀j,j<i→vAt (mlV m.h.m m.h.len) x.voices j=0) (fun i=>mkF [(2, .ptr 2 0 0),(5, .d (dI (mlV m.h.m m.h.len))),(7, .d (dI k)),(8, .ptr 8 0 0),(11, .d (dI i))]) (fun i=>mkH [(2, .box ((Ms.c m).map S.d)),(8, .box ((Ce.c x).map S.d))]) (fun i=>x.voices.length - i) (0) (⟨Nat.zero_le _,Yf⟩) ?_ ?_ ?_
 exact fz ⟨sr,sr,sr,sr,sr,trivial⟩
 exact gz ⟨R,R,trivial⟩
 intro i hk6
 obtain ⟨hi,hf6⟩:=hk6
 refine zs<|zr<|zm R R<|zp (Ac R R D0)<|zp (Ab R R Gi R R)<|XL.len R R R Tryz.underlying76 fun hl123=>zp (Ar R R R)<|zn<|?_
 refine zd R (fun c124=> ?_) (fun c124=> ?_)
 have hil:i<x.voices.length:=by omega
 obtain ⟨u,hu⟩:=A3 hil
 have hEu:=hEv u (List.mem_of_getElem? hu)
 have hva:=Tg (L:=(mlV m.h.m m.h.len)) hu
 refine zi<|zs<|Ah<|zr<|zp (Ac R R D0)<|zp (Ab R R Gi R R)<|zm R R<|zp (At R R R Kv (hu))<|zp (Ff R R B2)<|zp (Bb R R De)<|XL.len R R R Tryz.underlying79 fun hl133=>zp (A5 R R R)<|zn<|?_
 refine zd R (fun c134=> ?_) (fun c134=> ?_)
 refine zr<|zp (Ac R R D0)<|zp (Ab R R Gi R R)<|zm R R<|zp (At R R R Kv (hu))<|zp (Ae (s':= .d (.agg (Vo.c u))) (A9 R R Ax lb) (by kernel_rfl))<|zm R R<|XL.call1 R R (Kp _ _ (by assumption)) R<|za R R<|znr<|zm R R<|zp (As R R R)<|zn<|?_
 refine zd R (fun c143=> ?_) (fun c143=> ?_)
 exact zr<|zm R R<|za R R<|zn<|zt<|z1 R R (rI (by have e:=Au1 cf (by omega) hv (by omega) hf6 hu (Pc (by omega)) (by assumption);rw [Kx (by omega) (by omega) (by omega),I5 hf (by omega) (by rw [hca,e];first|assumption|decide),hca,e]))
 refine zi<|Af (by kernel_rfl)<|zm R R<|zp (Am R R R (by omega) (by omega))<|za R R<|zn<|?_
 exact Ap (i+1) (⟨by omega,Mx hf6 (by rw [hva,Pc (by omega)];omega)⟩) (by omega) (fz ⟨sr,sr,sr,sr,sr,trivial⟩) (gz ⟨rfl,rfl,trivial⟩)
 refine zi<|Af (by kernel_rfl)<|zm R R<|zp (Am R R R (by omega) (by omega))<|za R R<|zn<|?_
 exact Ap (i+1) (⟨by omega,Mx hf6 (by rw [hva,Aqr (by omega)])⟩) (by omega) (fz ⟨sr,sr,sr,sr,sr,trivial⟩) (gz ⟨rfl,rfl,trivial⟩)
 refine A0<|Af (by kernel_rfl)<|zm R R<|zp (Am R R R (by omega) (by omega))<|za R R<|zn<|?_
 exact Ap (k+1) (⟨by omega,Mx hf (by rw [hca,Anx cf (by omega) hv (by omega) hf6 (by omega)])⟩) (by omega) (fz ⟨sr,sr,sr,trivial⟩) (gz ⟨rfl,trivial⟩)
 exact A0<|zr<|za R R<|zn<|zt<|z1 R R (rI (by rw [Kx (by omega) (by omega) (by omega),Q2 (fun j hj=>hf j (by omega))]))
end Go.Proofs.YtaafemnkamfgnaaGreat
namespace Go.Proofs.YtaafemnkamfgnaaGreat
open Go.RowKit
def Slt.z:Slt:=⟨0,0,0,0,0⟩
def Ce.voice (c:Ce) (v:Int):Vo:=(c.voices[v.toNat]?).getD ⟨[], []⟩
def atM (m:Ms) (s v t:Int):Slt × Int:=if mlE m.h.m m.h.len≠0 then (Slt.z,mlE m.h.m m.h.len)
 else if (s<0∨(m.cells.length:Int)≤s)∨(v<0∨((m.cell s).voices.length:Int)≤v)∨((m.cell s).voice v).evs.length=0 then (Slt.z,2)
 else if atE ((m.cell s).voice v) (mlV m.h.m m.h.len) t≠0 then (Slt.z,atE ((m.cell s).voice v) (mlV m.h.m m.h.len) t)
 else (⟨s,v,(atV ((m.cell s).voice v) (mlV m.h.m m.h.len) t).1,(atV ((m.cell s).voice v) (mlV m.h.m m.h.len) t).2,(atV ((m.cell s).voice v) (mlV m.h.m m.h.len) t).2+((ckL ((m.cell s).voice v) (mlV m.h.m m.h.len))[(atV ((m.cell s).voice v) (mlV m.h.m m.h.len) t).1.toNat]?).getD 0⟩,0)
end Go.Proofs.YtaafemnkamfgnaaGreat
namespace Go.Proofs.YtaafemnkamfgnaaGreat
open Go.RowKit
def Ms.ev (m:Ms) (s:Slt):Ev:=((((m.cell s.staff).voice s.voice).evs)[s.ev.toNat]?).getD restE
def idp (m:Ms) (a b:Int) (s:Slt):Bool:=decide ((m.ev s).site=a∧(m.ev s).num=b)
def fdM (m:Ms) (a b:Int):Slt × Bool:=if slE m≠0∨(a=0∧b=0) then (Slt.z,false) else
 match (slL m).find? (idp m a b) with
 |some s=>(s,true)
 |none=>(Slt.z,false)
def Ms.slot (m:Ms) (s:Slt):Prop:=s∈slL m
end Go.Proofs.YtaafemnkamfgnaaGreat
namespace Go.Proofs.YtaafemnkamfgnaaGreat
open Go.RowKit
set_option maxRecDepth 4000
set_option maxHeartbeats 4000000 in
theorem Ap5 (d:Nat) (w:World) (a0:Int) (a1:Int) (a2:Int) (a3:Int) (a4:Int) (a5:Int) (a6:Int) (a7:Int) (b0:Int) (b1:Int) (b2:Int) (b3:Int) (b4:Int) (b5:Int) (b6:Int) (b7:Int):(Op.equalIn (d+3) 26 (.agg #[.int .i64 a0, .int .i64 a1, .int .i64 a2, .int .i64 a3, .int .i64 a4, .int .i64 a5, .int .i64 a6, .int .i64 a7]) (.agg #[.int .i64 b0, .int .i64 b1, .int .i64 b2, .int .i64 b3, .int .i64 b4, .int .i64 b5, .int .i64 b6, .int .i64 b7])).run Tryz.prog w= .ok (decide (a0=b0∧a1=b1∧(a2=b2∧a3=b3∧a4=b4∧a5=b5∧a6=b6∧a7=b7))) w:=by
 rw [show d+3=(d+2)+1 from rfl,run_equalIn_struct w (d+2) 26 _ _ (by kernel_rfl) (by kernel_rfl),D9 Tryz.underlying26]
 exact B8 (by decide) (Bj Ai w rfl) (Bj Ai w rfl) (Cj (d+1) 3 Tryz.underlying3 _ _) (B8 (by decide) (Bj Ai w rfl) (Bj Ai w rfl) (Cj (d+1) 3 Tryz.underlying3 _ _) (Ge (by decide) (Kr Qk w rfl) (Kr Qk w rfl) (U4 (d) w _ _ _ _ _ _ _ _ _ _ _ _)))
set_option maxHeartbeats 4000000 in
theorem Amp (d:Nat) (w:World) (a0:Int) (a1:Int) (a2:Int) (a3:Int) (a4:Int) (a5:Int) (a6:Int) (a7:Int) (a8:Int) (a9:Int) (a10:Int) (a11:Int) (a12:Bool) (a13:Int) (a14:Int) (a15:Int) (a16:Int) (a17:Int) (a18:Int) (a19:ByteArray) (b0:Int) (b1:Int) (b2:Int) (b3:Int) (b4:Int) (b5:Int) (b6:Int) (b7:Int) (b8:Int) (b9:Int) (b10:Int) (b11:Int) (b12:Bool) (b13:Int) (b14:Int) (b15:Int) (b16:Int) (b17:Int) (b18:Int) (b19:ByteArray):(Op.equalIn (d+4) 127 (.agg #[.int .i64 a0, .int .i64 a1, .int .i64 a2, .int .i64 a3, .int .i64 a4, .int .i64 a5, .int .i64 a6, .int .i64 a7, .int .i64 a8, .int .i64 a9, .int .i64 a10, .int .i64 a11, .bool a12, .int .i64 a13, .int .i64 a14, .int .i64 a15, .int .i64 a16, .int .i64 a17, .int .i64 a18, .string a19]) (.agg #[.int .i64 b0, .int .i64 b1, .int .i64 b2, .int .i64 b3, .int .i64 b4, .int .i64 b5, .int .i64 b6, .int .i64 b7, .int .i64 b8, .int .i64 b9, .int .i64 b10, .int .i64 b11, .bool b12, .int .i64 b13, .int .i64 b14, .int .i64 b15, .int .i64 b16, .int .i64 b17, .int .i64 b18, .string b19])).run Tryz.prog w= .ok (decide ((a0=b0∧a1=b1)∧(a2=b2∧a3=b3∧(a4=b4∧a5=b5∧a6=b6∧a7=b7∧a8=b8∧a9=b9))∧a10=b10∧a11=b11∧a12=b12∧a13=b13∧a14=b14∧a15=b15∧a16=b16∧a17=b17∧a18=b18∧a19.toList=b19.toList)) w:=by
 rw [show d+4=(d+3)+1 from rfl,run_equalIn_struct w (d+3) 127 _ _ (by kernel_rfl) (by kernel_rfl),D9 Tryz.underlying127]
 exact B8 (by decide) (Kr My w rfl) (Kr My w rfl) (Aer (d+1) w _ _ _ _) (B8 (by decide) (Kr A7 w rfl) (Kr A7 w rfl) (Ap5 (d) w _ _ _ _ _ _ _ _ _ _ _ _ _ _ _ _) (B8 (by decide) (Bj Ai w rfl) (Bj Ai w rfl) (Cj (d+2) 3 Tryz.underlying3 _ _) (B8 (by decide) (Bj Ai w rfl) (Bj Ai w rfl) (Cj (d+2) 3 Tryz.underlying3 _ _) (B8 (by decide) (Bj Oh w rfl) (Bj Oh w rfl) (Oz (d+2) 4 Tryz.underlying4 _ _) (B8 (by decide) (Bj Ai w rfl) (Bj Ai w rfl) (Cj (d+2) 3 Tryz.underlying3 _ _) (B8 (by decide) (Bj Ai w rfl) (Bj Ai w rfl) (Cj (d+2) 3 Tryz.underlying3 _ _) (B8 (by decide) (Bj Ai w rfl) (Bj Ai w rfl) (Cj (d+2) 3 Tryz.underlying3 _ _) (B8 (by decide) (Bj Ai w rfl) (Bj Ai w rfl) (Cj (d+2) 3 Tryz.underlying3 _ _) (B8 (by decide) (Bj Ai w rfl) (Bj Ai w rfl) (Cj (d+2) 3 Tryz.underlying3 _ _) (B8 (by decide) (Bj Ai w rfl) (Bj Ai w rfl) (Cj (d+2) 3 Tryz.underlying3 _ _) (Ge (by decide) (Bj Nm w rfl) (Bj Nm w rfl) (Aes (d+2) 9 Tryz.underlying9 _ _))))))))))))
set_option maxHeartbeats 4000000 in
theorem Ps {t':TypeId} {o:Oper} {e:Operand→S} {h:Xh} {x y:Operand} {a0:Int} {a1:Int} {a2:Int} {a3:Int} {a4:Int} {a5:Int} {a6:Int} {a7:Int} {a8:Int} {a9:Int} {a10:Int} {a11:Int} {a12:Bool} {a13:Int} {a14:Int} {a15:Int} {a16:Int} {a17:Int} {a18:Int} {a19:ByteArray} {b0:Int} {b1:Int} {b2:Int} {b3:Int} {b4:Int} {b5:Int} {b6:Int} {b7:Int} {b8:Int} {b9:Int} {b10:Int} {b11:Int} {b12:Bool} {b13:Int} {b14:Int} {b15:Int} {b16:Int} {b17:Int} {b18:Int} {b19:ByteArray} (ho:o.op= .binOp .eql 127 x y t') (hx:e x= .d (.agg [.v (.int .i64 a0), .v (.int .i64 a1), .v (.int .i64 a2), .v (.int .i64 a3), .v (.int .i64 a4), .v (.int .i64 a5), .v (.int .i64 a6), .v (.int .i64 a7), .v (.int .i64 a8), .v (.int .i64 a9), .v (.int .i64 a10), .v (.int .i64 a11), .v (.bool a12), .v (.int .i64 a13), .v (.int .i64 a14), .v (.int .i64 a15), .v (.int .i64 a16), .v (.int .i64 a17), .v (.int .i64 a18), .v (.string a19)])) (hy:e y= .d (.agg [.v (.int .i64 b0), .v (.int .i64 b1), .v (.int .i64 b2), .v (.int .i64 b3), .v (.int .i64 b4), .v (.int .i64 b5), .v (.int .i64 b6), .v (.int .i64 b7), .v (.int .i64 b8), .v (.int .i64 b9), .v (.int .i64 b10), .v (.int .i64 b11), .v (.bool b12), .v (.int .i64 b13), .v (.int .i64 b14), .v (.int .i64 b15), .v (.int .i64 b16), .v (.int .i64 b17), .v (.int .i64 b18), .v (.string b19)])):Bi Tryz.prog o e h (.d (.v (.bool (decide ((a0=b0∧a1=b1)∧(a2=b2∧a3=b3∧(a4=b4∧a5=b5∧a6=b6∧a7=b7∧a8=b8∧a9=b9))∧a10=b10∧a11=b11∧a12=b12∧a13=b13∧a14=b14∧a15=b15∧a16=b16∧a17=b17∧a18=b18∧a19.toList=b19.toList))))):=by
 refine Fg ho hx hy rfl rfl (by kernel_rfl) fun w=> ?_
 refine (run_eql_struct w 127 #[.int .i64 a0, .int .i64 a1, .int .i64 a2, .int .i64 a3, .int .i64 a4, .int .i64 a5, .int .i64 a6, .int .i64 a7, .int .i64 a8, .int .i64 a9, .int .i64 a10, .int .i64 a11, .bool a12, .int .i64 a13, .int .i64 a14, .int .i64 a15, .int .i64 a16, .int .i64 a17, .int .i64 a18, .string a19] #[.int .i64 b0, .int .i64 b1, .int .i64 b2, .int .i64 b3, .int .i64 b4, .int .i64 b5, .int .i64 b6, .int .i64 b7, .int .i64 b8, .int .i64 b9, .int .i64 b10, .int .i64 b11, .bool b12, .int .i64 b13, .int .i64 b14, .int .i64 b15, .int .i64 b16, .int .i64 b17, .int .i64 b18, .string b19]).trans ?_
 have hq:=Amp 9996 w a0 a1 a2 a3 a4 a5 a6 a7 a8 a9 a10 a11 a12 a13 a14 a15 a16 a17 a18 a19 b0 b1 b2 b3 b4 b5 b6 b7 b8 b9 b10 b11 b12 b13 b14 b15 b16 b17 b18 b19
 simp only [Nat.reduceAdd] at hq
 rw [hq]
 simp only [Result.andThen_ok]
end Go.Proofs.YtaafemnkamfgnaaGreat
namespace Go.Proofs.YtaafemnkamfgnaaGreat
open Go.RowKit
theorem dno {p:Prop} [Decidable p] (h:¬p):false=decide p:=(decide_eq_false h).symm
theorem Amr {p:Prop} [Decidable p] (h:p):true=decide p:=(decide_eq_true h).symm
theorem Ev.eqv_iff {a b:Ev}:a.eqv b↔a=b:=by
 constructor
 ·rintro ⟨⟨h1,h2⟩,h3,h4,h5,h6,h7,h8,h9,h10,h11,h12⟩
  obtain ⟨a1,a2,a3,a4,a5,a6,a7,a8,a9,a10,a11,a12⟩:=a
  obtain ⟨b1,b2,b3,b4,b5,b6,b7,b8,b9,b10,b11,b12⟩:=b
  simp only at h1 h2 h3 h4 h5 h6 h7 h8 h9 h10 h11 h12
  subst h1 h2 h3 h4 h5 h6 h7 h8 h9 h10 h11 h12;rfl
 ·rintro rfl
  exact ⟨⟨rfl,rfl⟩,rfl,rfl,rfl,rfl,rfl,rfl,rfl,rfl,rfl,rfl⟩
instance:DecidableEq Ev:=fun a b=>decidable_of_iff _ Ev.eqv_iff
instance:DecidableEq Vo:=fun a b=>decidable_of_iff (a.evs=b.evs∧a.tups=b.tups) ⟨fun h=>by obtain ⟨x,y⟩:=a;obtain ⟨z,t⟩:=b;obtain ⟨rfl,rfl⟩:=h;rfl,fun h=>by rw [h];exact ⟨rfl,rfl⟩⟩
instance:DecidableEq Ce:=fun a b=>decidable_of_iff (a.clefs=b.clefs∧a.voices=b.voices) ⟨fun h=>by obtain ⟨x,y⟩:=a;obtain ⟨z,t⟩:=b;obtain ⟨rfl,rfl⟩:=h;rfl,fun h=>by rw [h];exact ⟨rfl,rfl⟩⟩
instance:DecidableEq Ms:=fun a b=>decidable_of_iff (a.h=b.h∧a.tempi=b.tempi∧a.cells=b.cells) ⟨fun h=>by obtain ⟨x,y,z⟩:=a;obtain ⟨x',y',z'⟩:=b;obtain ⟨rfl,rfl,rfl⟩:=h;rfl,fun h=>by rw [h];exact ⟨rfl,rfl,rfl⟩⟩
theorem Cf.eq_of {x y:Cf} (h:¬ ¬(x.tk=y.tk∧x.clef=y.clef)):x=y:=by
 obtain ⟨a,b⟩:=x;obtain ⟨a',b'⟩:=y;simp only [Decidable.not_not] at h;obtain ⟨rfl,rfl⟩:=h;rfl
theorem Cf.ne_of {x y:Cf} (h:¬(x.tk=y.tk∧x.clef=y.clef)):x≠y:=by rintro rfl;exact h ⟨rfl,rfl⟩
theorem Tm.eq_of {x y:Tm} (h:¬ ¬(x.tk=y.tk∧x.micros=y.micros∧x.ramp=y.ramp)):x=y:=by
 obtain ⟨a,b,c⟩:=x;obtain ⟨a',b',c'⟩:=y;simp only [Decidable.not_not] at h;obtain ⟨rfl,rfl,rfl⟩:=h;rfl
theorem Tm.ne_of {x y:Tm} (h:¬(x.tk=y.tk∧x.micros=y.micros∧x.ramp=y.ramp)):x≠y:=by rintro rfl;exact h ⟨rfl,rfl,rfl⟩
theorem Tp.eq_of {x y:Tp} (h:¬ ¬(x.first=y.first∧x.count=y.count∧x.actual=y.actual∧x.normal=y.normal)):x=y:=by
 obtain ⟨a,b,c,d⟩:=x;obtain ⟨a',b',c',d'⟩:=y;simp only [Decidable.not_not] at h;obtain ⟨rfl,rfl,rfl,rfl⟩:=h;rfl
theorem Tp.ne_of {x y:Tp} (h:¬(x.first=y.first∧x.count=y.count∧x.actual=y.actual∧x.normal=y.normal)):x≠y:=by rintro rfl;exact h ⟨rfl,rfl,rfl,rfl⟩
theorem Aml (a b:List Cf):XC Tryz.prog 79 [.sl 2 (a.map Cf.c), .sl 2 (b.map Cf.c)] (fun r=>r=dB (decide (a=b))):=by
 refine Aj Acs Tryz.func79 R R lb<|zr<|za R R<|zn<|zs<|zr<|zm R R<|XL.len R R R Tryz.underlying75 fun hl7=>zm R R<|XL.len R R R Tryz.underlying75 fun hl9=>zp (As R R R)<|zn<|?_
 refine zd R (fun c10=> ?_) (fun c10=> ?_)
 exact zr<|za R R<|zn<|zt<|z1 R R (rB (Gb (fun h=>c10 (by rw [h]))))
 refine zi<|zs<|zr<|zm R R<|XL.len R R R Tryz.underlying75 fun hl12=>zm R R<|zn<|Ah<|?_
 refine A6 (α:=Nat) (fun k=>k≤a.length∧∀j x y,j<k→a[j]? =some x→b[j]? =some y→x=y) (fun k=>mkF [(0, .d (.sl 2 (a.map Cf.c))),(1, .d (.sl 2 (b.map Cf.c))),(12, .d (dI a.length)),(13, .d (dI k))]) (fun k=>mkH []) (fun k=>a.length - k) (0) (⟨Nat.zero_le _,fun j x y h=>absurd h (Nat.not_lt_zero _)⟩) ?_ ?_ ?_
 exact fz ⟨sr,sr,sr,sr,trivial⟩
 exact HSub.nil
 intro k hk0
 obtain ⟨hk,hf⟩:=hk0
 refine zr<|zp (Ar R R R)<|zn<|zs<|?_
 refine zd R (fun c14=> ?_) (fun c14=> ?_)
 have hk0a:k<a.length:=by omega
 obtain ⟨x,hx0⟩:=A3 hk0a
 obtain ⟨y,hy⟩:∃y,b[k]? =some y:=A3 (by omega)
 refine zi<|zs<|Ah<|zr<|zm R R<|za R R<|zn<|zs<|Be [] (by kernel_rfl) (by kernel_rfl) (by kernel_rfl) (by decide)<|ym R R<|ym R R<|yp (At R R R Jc hx0)<|yp (Ae (s':= .d (.agg (Cf.c x))) (A9 R R Ob lb) (by kernel_rfl))<|ym R R<|?_
 refine ym R R<|yp (At R R R Jc (hy))<|yp (Ae (s':= .d (.agg (Cf.c y))) (A9 R R Ob lb) (by kernel_rfl))<|yp (Ak2 R R R)<|?_
 refine ChK.nil ⟨by kernel_rfl, ?_⟩
 refine zd R (fun c24=> ?_) (fun c24=> ?_)
 exact zr<|za R R<|zn<|zt<|z1 R R (rB (Gb (fun h=>Cf.ne_of c24 (by rw [h] at hx0;rw [hx0] at hy;cases hy;rfl))))
 refine zi<|Af (by kernel_rfl)<|zp (Am R R R (by omega) (by omega))<|zm R R<|zn<|?_
 exact Ap (k+1) (⟨by omega,fun j x' y' hj hx' hy'=>by by_cases e:j=k;(· subst e;rw [hx0] at hx';rw [hy] at hy';cases hx';cases hy';exact Cf.eq_of c24);(· exact hf j x' y' (by omega) hx' hy')⟩) (by omega) (fz ⟨sr,sr,sr,sr,trivial⟩) (HSub.nil)
 have hk0b:k=a.length:=by omega
 exact A0<|zr<|za R R<|zn<|zt<|z1 R R (rB (eq_yes (Gn (by omega) (fun j x y hj=>hf j x y (by omega)))))
theorem Za (a b:List Tm):XC Tryz.prog 73 [.sl 3 (a.map Tm.c), .sl 3 (b.map Tm.c)] (fun r=>r=dB (decide (a=b))):=by
 refine Aj Acx Tryz.func73 R R lb<|zr<|za R R<|zn<|zs<|zr<|zm R R<|XL.len R R R Tryz.underlying27 fun hl7=>zm R R<|XL.len R R R Tryz.underlying27 fun hl9=>zp (As R R R)<|zn<|?_
 refine zd R (fun c10=> ?_) (fun c10=> ?_)
 exact zr<|za R R<|zn<|zt<|z1 R R (rB (Gb (fun h=>c10 (by rw [h]))))
 refine zi<|zs<|zr<|zm R R<|XL.len R R R Tryz.underlying27 fun hl12=>zm R R<|zn<|Ah<|?_
 refine A6 (α:=Nat) (fun k=>k≤a.length∧∀j x y,j<k→a[j]? =some x→b[j]? =some y→x=y) (fun k=>mkF [(0, .d (.sl 3 (a.map Tm.c))),(1, .d (.sl 3 (b.map Tm.c))),(12, .d (dI a.length)),(13, .d (dI k))]) (fun k=>mkH []) (fun k=>a.length - k) (0) (⟨Nat.zero_le _,fun j x y h=>absurd h (Nat.not_lt_zero _)⟩) ?_ ?_ ?_
 exact fz ⟨sr,sr,sr,sr,trivial⟩
 exact HSub.nil
 intro k hk0
 obtain ⟨hk,hf⟩:=hk0
 refine zr<|zp (Ar R R R)<|zn<|zs<|?_
 refine zd R (fun c14=> ?_) (fun c14=> ?_)
 have hk0a:k<a.length:=by omega
 obtain ⟨x,hx0⟩:=A3 hk0a
 obtain ⟨y,hy⟩:∃y,b[k]? =some y:=A3 (by omega)
 refine zi<|zs<|Ah<|zr<|zm R R<|za R R<|zn<|zs<|Be [] (by kernel_rfl) (by kernel_rfl) (by kernel_rfl) (by decide)<|ym R R<|ym R R<|yp (At R R R O1 hx0)<|yp (Ae (s':= .d (.agg (Tm.c x))) (A9 R R L6 lb) (by kernel_rfl))<|ym R R<|?_
 refine ym R R<|yp (At R R R O1 (hy))<|yp (Ae (s':= .d (.agg (Tm.c y))) (A9 R R L6 lb) (by kernel_rfl))<|yp (Ah7 R R R)<|?_
 refine ChK.nil ⟨by kernel_rfl, ?_⟩
 refine zd R (fun c24=> ?_) (fun c24=> ?_)
 exact zr<|za R R<|zn<|zt<|z1 R R (rB (Gb (fun h=>Tm.ne_of c24 (by rw [h] at hx0;rw [hx0] at hy;cases hy;rfl))))
 refine zi<|Af (by kernel_rfl)<|zp (Am R R R (by omega) (by omega))<|zm R R<|zn<|?_
 exact Ap (k+1) (⟨by omega,fun j x' y' hj hx' hy'=>by by_cases e:j=k;(· subst e;rw [hx0] at hx';rw [hy] at hy';cases hx';cases hy';exact Tm.eq_of c24);(· exact hf j x' y' (by omega) hx' hy')⟩) (by omega) (fz ⟨sr,sr,sr,sr,trivial⟩) (HSub.nil)
 have hk0b:k=a.length:=by omega
 exact A0<|zr<|za R R<|zn<|zt<|z1 R R (rB (eq_yes (Gn (by omega) (fun j x y hj=>hf j x y (by omega)))))
theorem Amh (a b:List Tp):XC Tryz.prog 139 [.sl 4 (a.map Tp.c), .sl 4 (b.map Tp.c)] (fun r=>r=dB (decide (a=b))):=by
 refine Aj Aba Tryz.func139 R R lb<|zr<|za R R<|zn<|zs<|zr<|zm R R<|XL.len R R R Tryz.underlying80 fun hl7=>zm R R<|XL.len R R R Tryz.underlying80 fun hl9=>zp (As R R R)<|zn<|?_
 refine zd R (fun c10=> ?_) (fun c10=> ?_)
 exact zr<|za R R<|zn<|zt<|z1 R R (rB (Gb (fun h=>c10 (by rw [h]))))
 refine zi<|zs<|zr<|zm R R<|XL.len R R R Tryz.underlying80 fun hl12=>zm R R<|zn<|Ah<|?_
 refine A6 (α:=Nat) (fun k=>k≤a.length∧∀j x y,j<k→a[j]? =some x→b[j]? =some y→x=y) (fun k=>mkF [(0, .d (.sl 4 (a.map Tp.c))),(1, .d (.sl 4 (b.map Tp.c))),(12, .d (dI a.length)),(13, .d (dI k))]) (fun k=>mkH []) (fun k=>a.length - k) (0) (⟨Nat.zero_le _,fun j x y h=>absurd h (Nat.not_lt_zero _)⟩) ?_ ?_ ?_
 exact fz ⟨sr,sr,sr,sr,trivial⟩
 exact HSub.nil
 intro k hk0
 obtain ⟨hk,hf⟩:=hk0
 refine zr<|zp (Ar R R R)<|zn<|zs<|?_
 refine zd R (fun c14=> ?_) (fun c14=> ?_)
 have hk0a:k<a.length:=by omega
 obtain ⟨x,hx0⟩:=A3 hk0a
 obtain ⟨y,hy⟩:∃y,b[k]? =some y:=A3 (by omega)
 refine zi<|zs<|Ah<|zr<|zm R R<|za R R<|zn<|zs<|Be [] (by kernel_rfl) (by kernel_rfl) (by kernel_rfl) (by decide)<|ym R R<|ym R R<|yp (At R R R Fk hx0)<|yp (Ae (s':= .d (.agg (Tp.c x))) (A9 R R B5 lb) (by kernel_rfl))<|ym R R<|?_
 refine ym R R<|yp (At R R R Fk (hy))<|yp (Ae (s':= .d (.agg (Tp.c y))) (A9 R R B5 lb) (by kernel_rfl))<|yp (Ah6 R R R)<|?_
 refine ChK.nil ⟨by kernel_rfl, ?_⟩
 refine zd R (fun c24=> ?_) (fun c24=> ?_)
 exact zr<|za R R<|zn<|zt<|z1 R R (rB (Gb (fun h=>Tp.ne_of c24 (by rw [h] at hx0;rw [hx0] at hy;cases hy;rfl))))
 refine zi<|Af (by kernel_rfl)<|zp (Am R R R (by omega) (by omega))<|zm R R<|zn<|?_
 exact Ap (k+1) (⟨by omega,fun j x' y' hj hx' hy'=>by by_cases e:j=k;(· subst e;rw [hx0] at hx';rw [hy] at hy';cases hx';cases hy';exact Tp.eq_of c24);(· exact hf j x' y' (by omega) hx' hy')⟩) (by omega) (fz ⟨sr,sr,sr,sr,trivial⟩) (HSub.nil)
 have hk0b:k=a.length:=by omega
 exact A0<|zr<|za R R<|zn<|zt<|z1 R R (rB (eq_yes (Gn (by omega) (fun j x y hj=>hf j x y (by omega)))))
theorem Ajs (a b:List Ev) (F:Nat) (hF:∀x∈a,∀y∈b,XC Tryz.prog F [.agg (Ev.c x), .agg (Ev.c y)] (fun r=>r=dB (decide (x=y)))):XC Tryz.prog 108 [.sl 13 (a.map Ev.c), .sl 13 (b.map Ev.c), .fn F [] []] (fun r=>r=dB (decide (a=b))):=by
 refine Aj Abq Tryz.func108 R R lb<|zr<|za R R<|zn<|zs<|zr<|zm R R<|XL.len R R R Tryz.underlying79 fun hl11=>zm R R<|XL.len R R R Tryz.underlying79 fun hl13=>zp (As R R R)<|zn<|?_
 refine zd R (fun c14=> ?_) (fun c14=> ?_)
 exact zr<|za R R<|zn<|zt<|z1 R R (rB (Gb (fun h=>c14 (by rw [h]))))
 refine zi<|zs<|zr<|zm R R<|XL.len R R R Tryz.underlying79 fun hl16=>zm R R<|zn<|Ah<|?_
 refine A6 (α:=Nat) (fun k=>k≤a.length∧∀j x y,j<k→a[j]? =some x→b[j]? =some y→x=y) (fun k=>mkF [(1, .d (.sl 13 (b.map Ev.c))),(2, .d (.fn F [] [])),(15, .d (.sl 13 (a.map Ev.c))),(16, .d (dI a.length)),(17, .d (dI k))]) (fun k=>mkH []) (fun k=>a.length - k) (0) (⟨Nat.zero_le _,fun j x y h=>absurd h (Nat.not_lt_zero _)⟩) ?_ ?_ ?_
 exact fz ⟨sr,sr,sr,sr,sr,trivial⟩
 exact HSub.nil
 intro k hk0
 obtain ⟨hk,hf⟩:=hk0
 refine zr<|zp (Ar R R R)<|zn<|zs<|?_
 refine zd R (fun c18=> ?_) (fun c18=> ?_)
 have hk0a:k<a.length:=by omega
 obtain ⟨x,hx0⟩:=A3 hk0a
 obtain ⟨y,hy⟩:∃y,b[k]? =some y:=A3 (by omega)
 refine zi<|zs<|Ah<|zr<|zm R R<|zp (At R R R Hm hx0)<|zp (Ae (s':= .d (.agg (Ev.c x))) (A9 R R Bz lb) (by kernel_rfl))<|XL.step R (Al 8 (l:= [.d (dI 0), .d (dI 0), .d (dI 0), .d (dI 0), .d (dI 0), .d (.v (.slice none 0 0)), .d (.v (.slice none 0 0)), .d (dI 0), .d (dI 0), .d (dI 0), .d (.v (.slice none 0 0)), .d (dI 0), .d (dI 0)]) R B3 (by kernel_rfl))<|?_
 refine za R R<|XL.step R (Ag (l':= [.d (dI x.site), .d (dI x.num), .d (dI x.kind), .d (dI x.v.log), .d (dI x.v.dots), .d (.sl 5 (x.heads.map Hd.c)), .d (.sl 5 (x.graces.map Gr.c)), .d (dI x.art), .d (dI x.orn), .d (dI x.dyn), .d (.sl 2 (x.lyr.map Sy.c)), .d (dI x.stem), .d (dI x.beam)]) R R R R C7 R lb (by kernel_rfl))<|znr<|zm R R<|zm R R<|zp (At R R R Hm (hy))<|?_
 refine zp (Ae (s':= .d (.agg (Ev.c y))) (A9 R R Bz lb) (by kernel_rfl))<|XL.step R (Al 9 (l:= [.d (dI 0), .d (dI 0), .d (dI 0), .d (dI 0), .d (dI 0), .d (.v (.slice none 0 0)), .d (.v (.slice none 0 0)), .d (dI 0), .d (dI 0), .d (dI 0), .d (.v (.slice none 0 0)), .d (dI 0), .d (dI 0)]) R B3 (by kernel_rfl))<|?_
 refine XL.step R (Ag (l':= [.d (dI y.site), .d (dI y.num), .d (dI y.kind), .d (dI y.v.log), .d (dI y.v.dots), .d (.sl 5 (y.heads.map Hd.c)), .d (.sl 5 (y.graces.map Gr.c)), .d (dI y.art), .d (dI y.orn), .d (dI y.dyn), .d (.sl 2 (y.lyr.map Sy.c)), .d (dI y.stem), .d (dI y.beam)]) R R R R C7 R lb (by kernel_rfl))<|znr<|zm R R<|?_
 refine zp (Ae (s':= .d (.agg (Ev.c x))) (Aa (Ad R R Bz R lb)) (by kernel_rfl))<|zp (Ae (s':= .d (.agg (Ev.c y))) (Aa (Ad R R Bz R lb)) (by kernel_rfl))<|XL.callv1 (ds:= [_,_]) R R R (hF x (List.mem_of_getElem? hx0) y (List.mem_of_getElem? hy)) R<|zp (Ey R R)<|zn<|?_
 refine zd R (fun c30=> ?_) (fun c30=> ?_)
 exact zr<|za R R<|zn<|zt<|z1 R R (rB (Gb (fun h=>c30 (by rw [h] at hx0;rw [hx0] at hy;cases hy;rfl))))
 refine zi<|Af (by kernel_rfl)<|zp (Am R R R (by omega) (by omega))<|zm R R<|zn<|?_
 exact Ap (k+1) (⟨by omega,fun j x' y' hj hx' hy'=>by by_cases e:j=k;(· subst e;rw [hx0] at hx';rw [hy] at hy';cases hx';cases hy';exact Decidable.not_not.1 c30);(· exact hf j x' y' (by omega) hx' hy')⟩) (by omega) (fz ⟨sr,sr,sr,sr,sr,trivial⟩) (HSub.nil)
 have hk0b:k=a.length:=by omega
 exact A0<|zr<|za R R<|zn<|zt<|z1 R R (rB (eq_yes (Gn (by omega) (fun j x y hj=>hf j x y (by omega)))))
theorem Ajr (a b:List Vo) (F:Nat) (hF:∀x∈a,∀y∈b,XC Tryz.prog F [.agg (Vo.c x), .agg (Vo.c y)] (fun r=>r=dB (decide (x=y)))):XC Tryz.prog 80 [.sl 2 (a.map Vo.c), .sl 2 (b.map Vo.c), .fn F [] []] (fun r=>r=dB (decide (a=b))):=by
 refine Aj Acr Tryz.func80 R R lb<|zr<|za R R<|zn<|zs<|zr<|zm R R<|XL.len R R R Tryz.underlying76 fun hl11=>zm R R<|XL.len R R R Tryz.underlying76 fun hl13=>zp (As R R R)<|zn<|?_
 refine zd R (fun c14=> ?_) (fun c14=> ?_)
 exact zr<|za R R<|zn<|zt<|z1 R R (rB (Gb (fun h=>c14 (by rw [h]))))
 refine zi<|zs<|zr<|zm R R<|XL.len R R R Tryz.underlying76 fun hl16=>zm R R<|zn<|Ah<|?_
 refine A6 (α:=Nat) (fun k=>k≤a.length∧∀j x y,j<k→a[j]? =some x→b[j]? =some y→x=y) (fun k=>mkF [(1, .d (.sl 2 (b.map Vo.c))),(2, .d (.fn F [] [])),(15, .d (.sl 2 (a.map Vo.c))),(16, .d (dI a.length)),(17, .d (dI k))]) (fun k=>mkH []) (fun k=>a.length - k) (0) (⟨Nat.zero_le _,fun j x y h=>absurd h (Nat.not_lt_zero _)⟩) ?_ ?_ ?_
 exact fz ⟨sr,sr,sr,sr,sr,trivial⟩
 exact HSub.nil
 intro k hk0
 obtain ⟨hk,hf⟩:=hk0
 refine zr<|zp (Ar R R R)<|zn<|zs<|?_
 refine zd R (fun c18=> ?_) (fun c18=> ?_)
 have hk0a:k<a.length:=by omega
 obtain ⟨x,hx0⟩:=A3 hk0a
 obtain ⟨y,hy⟩:∃y,b[k]? =some y:=A3 (by omega)
 refine zi<|zs<|Ah<|zr<|zm R R<|zp (At R R R Kv hx0)<|zp (Ae (s':= .d (.agg (Vo.c x))) (A9 R R Ax lb) (by kernel_rfl))<|XL.step R (Al 8 (l:= [.d (.v (.slice none 0 0)), .d (.v (.slice none 0 0))]) R Bc (by kernel_rfl))<|za R R<|XL.step R (Ag (l':= [.d (.sl 13 (x.evs.map Ev.c)), .d (.sl 4 (x.tups.map Tp.c))]) R R R R Bp R lb (by kernel_rfl))<|znr<|?_
 refine zm R R<|zm R R<|zp (At R R R Kv (hy))<|zp (Ae (s':= .d (.agg (Vo.c y))) (A9 R R Ax lb) (by kernel_rfl))<|XL.step R (Al 9 (l:= [.d (.v (.slice none 0 0)), .d (.v (.slice none 0 0))]) R Bc (by kernel_rfl))<|XL.step R (Ag (l':= [.d (.sl 13 (y.evs.map Ev.c)), .d (.sl 4 (y.tups.map Tp.c))]) R R R R Bp R lb (by kernel_rfl))<|znr<|zm R R<|?_
 refine zp (Ae (s':= .d (.agg (Vo.c x))) (Aa (Ad R R Ax R lb)) (by kernel_rfl))<|zp (Ae (s':= .d (.agg (Vo.c y))) (Aa (Ad R R Ax R lb)) (by kernel_rfl))<|XL.callv1 (ds:= [_,_]) R R R (hF x (List.mem_of_getElem? hx0) y (List.mem_of_getElem? hy)) R<|zp (Ey R R)<|zn<|?_
 refine zd R (fun c30=> ?_) (fun c30=> ?_)
 exact zr<|za R R<|zn<|zt<|z1 R R (rB (Gb (fun h=>c30 (by rw [h] at hx0;rw [hx0] at hy;cases hy;rfl))))
 refine zi<|Af (by kernel_rfl)<|zp (Am R R R (by omega) (by omega))<|zm R R<|zn<|?_
 exact Ap (k+1) (⟨by omega,fun j x' y' hj hx' hy'=>by by_cases e:j=k;(· subst e;rw [hx0] at hx';rw [hy] at hy';cases hx';cases hy';exact Decidable.not_not.1 c30);(· exact hf j x' y' (by omega) hx' hy')⟩) (by omega) (fz ⟨sr,sr,sr,sr,sr,trivial⟩) (HSub.nil)
 have hk0b:k=a.length:=by omega
 exact A0<|zr<|za R R<|zn<|zt<|z1 R R (rB (eq_yes (Gn (by omega) (fun j x y hj=>hf j x y (by omega)))))
theorem Ajt (a b:List Ce) (F:Nat) (hF:∀x∈a,∀y∈b,XC Tryz.prog F [.agg (Ce.c x), .agg (Ce.c y)] (fun r=>r=dB (decide (x=y)))):XC Tryz.prog 74 [.sl 2 (a.map Ce.c), .sl 2 (b.map Ce.c), .fn F [] []] (fun r=>r=dB (decide (a=b))):=by
 refine Aj Acw Tryz.func74 R R lb<|zr<|za R R<|zn<|zs<|zr<|zm R R<|XL.len R R R Tryz.underlying28 fun hl11=>zm R R<|XL.len R R R Tryz.underlying28 fun hl13=>zp (As R R R)<|zn<|?_
 refine zd R (fun c14=> ?_) (fun c14=> ?_)
 exact zr<|za R R<|zn<|zt<|z1 R R (rB (Gb (fun h=>c14 (by rw [h]))))
 refine zi<|zs<|zr<|zm R R<|XL.len R R R Tryz.underlying28 fun hl16=>zm R R<|zn<|Ah<|?_
 refine A6 (α:=Nat) (fun k=>k≤a.length∧∀j x y,j<k→a[j]? =some x→b[j]? =some y→x=y) (fun k=>mkF [(1, .d (.sl 2 (b.map Ce.c))),(2, .d (.fn F [] [])),(15, .d (.sl 2 (a.map Ce.c))),(16, .d (dI a.length)),(17, .d (dI k))]) (fun k=>mkH []) (fun k=>a.length - k) (0) (⟨Nat.zero_le _,fun j x y h=>absurd h (Nat.not_lt_zero _)⟩) ?_ ?_ ?_
 exact fz ⟨sr,sr,sr,sr,sr,trivial⟩
 exact HSub.nil
 intro k hk0
 obtain ⟨hk,hf⟩:=hk0
 refine zr<|zp (Ar R R R)<|zn<|zs<|?_
 refine zd R (fun c18=> ?_) (fun c18=> ?_)
 have hk0a:k<a.length:=by omega
 obtain ⟨x,hx0⟩:=A3 hk0a
 obtain ⟨y,hy⟩:∃y,b[k]? =some y:=A3 (by omega)
 refine zi<|zs<|Ah<|zr<|zm R R<|zp (At R R R Ni hx0)<|zp (Ae (s':= .d (.agg (Ce.c x))) (A9 R R I6 lb) (by kernel_rfl))<|XL.step R (Al 8 (l:= [.d (.v (.slice none 0 0)), .d (.v (.slice none 0 0))]) R Eo (by kernel_rfl))<|za R R<|XL.step R (Ag (l':= [.d (.sl 2 (x.clefs.map Cf.c)), .d (.sl 2 (x.voices.map Vo.c))]) R R R R I7 R lb (by kernel_rfl))<|?_
 refine znr<|zm R R<|zm R R<|zp (At R R R Ni (hy))<|zp (Ae (s':= .d (.agg (Ce.c y))) (A9 R R I6 lb) (by kernel_rfl))<|XL.step R (Al 9 (l:= [.d (.v (.slice none 0 0)), .d (.v (.slice none 0 0))]) R Eo (by kernel_rfl))<|XL.step R (Ag (l':= [.d (.sl 2 (y.clefs.map Cf.c)), .d (.sl 2 (y.voices.map Vo.c))]) R R R R I7 R lb (by kernel_rfl))<|znr<|zm R R<|?_
 refine zp (Ae (s':= .d (.agg (Ce.c x))) (Aa (Ad R R I6 R lb)) (by kernel_rfl))<|zp (Ae (s':= .d (.agg (Ce.c y))) (Aa (Ad R R I6 R lb)) (by kernel_rfl))<|XL.callv1 (ds:= [_,_]) R R R (hF x (List.mem_of_getElem? hx0) y (List.mem_of_getElem? hy)) R<|zp (Ey R R)<|zn<|?_
 refine zd R (fun c30=> ?_) (fun c30=> ?_)
 exact zr<|za R R<|zn<|zt<|z1 R R (rB (Gb (fun h=>c30 (by rw [h] at hx0;rw [hx0] at hy;cases hy;rfl))))
 refine zi<|Af (by kernel_rfl)<|zp (Am R R R (by omega) (by omega))<|zm R R<|zn<|?_
 exact Ap (k+1) (⟨by omega,fun j x' y' hj hx' hy'=>by by_cases e:j=k;(· subst e;rw [hx0] at hx';rw [hy] at hy';cases hx';cases hy';exact Decidable.not_not.1 c30);(· exact hf j x' y' (by omega) hx' hy')⟩) (by omega) (fz ⟨sr,sr,sr,sr,sr,trivial⟩) (HSub.nil)
 have hk0b:k=a.length:=by omega
 exact A0<|zr<|za R R<|zn<|zt<|z1 R R (rB (eq_yes (Gn (by omega) (fun j x y hj=>hf j x y (by omega)))))
theorem Aoi (a b:List Tp):XC Tryz.prog 110 [.sl 4 (a.map Tp.c), .sl 4 (b.map Tp.c)] (fun r=>r=dB (decide (a=b))):=by
 exact Aj Abo Tryz.func110 R R lb<|zr<|za R R<|znr<|zm R R<|zm R R<|XL.call1 R R (Amh _ _) R<|za R R<|zn<|zt<|z1 R R (R)
theorem Ap1 (a b:Ev):XC Tryz.prog 109 [.agg (Ev.c a), .agg (Ev.c b)] (fun r=>r=dB (decide (a=b))):=by
 have h:=Ajw a b
 rw [show decide (a.eqv b)=decide (a=b) by rw [decide_eq_decide];exact Ev.eqv_iff] at h
 exact h
theorem Vo.eq_yes {a b:Vo} (h:a.evs=b.evs) (h2:a.tups=b.tups):a=b:=by obtain ⟨x,y⟩:=a;obtain ⟨z,t⟩:=b;simp only at h h2;subst h h2;rfl
theorem Ce.eq_yes {a b:Ce} (h:a.clefs=b.clefs) (h2:a.voices=b.voices):a=b:=by obtain ⟨x,y⟩:=a;obtain ⟨z,t⟩:=b;simp only at h h2;subst h h2;rfl
theorem Ms.eq_yes {a b:Ms} (h0:a.h=b.h) (h:a.tempi=b.tempi) (h2:a.cells=b.cells):a=b:=by obtain ⟨w,x,y⟩:=a;obtain ⟨w',z,t⟩:=b;simp only at h0 h h2;subst h0 h h2;rfl
theorem Aob (a b:Vo):XC Tryz.prog 78 [.agg (Vo.c a), .agg (Vo.c b)] (fun r=>r=dB (decide (a=b))):=by
 refine Aj Acu Tryz.func78 R R lb<|zr<|XL.step R (Aq 2 (l:= [.d (.sl 13 (a.evs.map Ev.c)), .d (.sl 4 (a.tups.map Tp.c))]) R R (by kernel_rfl))<|XL.step R (Aq 3 (l:= [.d (.sl 13 (b.evs.map Ev.c)), .d (.sl 4 (b.tups.map Tp.c))]) R R (by kernel_rfl))<|za R R<|znr<|zp (Ac R R B2)<|zp (Ab R R De R R)<|zp (Ac R R B2)<|zp (Ab R R De R R)<|?_
 refine XL.call1 R R (Ajs _ _ _ (fun x _ y _=>Ap1 x y)) R<|zm R R<|?_
 refine XL.dec 10 R (fun g10=> ?_) (fun g10=> ?_)
 exact zp (Ac R R Cn)<|zp (Ab R R Cc R R)<|zp (Ac R R Cn)<|zp (Ab R R Cc R R)<|XL.call1 R R (Aoi _ _) R<|zq R R R<|za R R<|zn<|zt<|z1 R R (rB (by by_cases h:a.tups=b.tups;(· rw [decide_eq_true h];exact Amr (Vo.eq_yes g10 h));(· rw [decide_eq_false h];exact dno (fun e=>h (by rw [e])))))
 exact zk 5 R<|zq R R R<|za R R<|zn<|zt<|z1 R R (rB (dno (fun e=>g10 (by rw [e]))))
theorem Aqa (a b:Ce):XC Tryz.prog 37 [.agg (Ce.c a), .agg (Ce.c b)] (fun r=>r=dB (decide (a=b))):=by
 refine Aj Adk Tryz.func37 R R lb<|zr<|XL.step R (Aq 2 (l:= [.d (.sl 2 (a.clefs.map Cf.c)), .d (.sl 2 (a.voices.map Vo.c))]) R R (by kernel_rfl))<|XL.step R (Aq 3 (l:= [.d (.sl 2 (b.clefs.map Cf.c)), .d (.sl 2 (b.voices.map Vo.c))]) R R (by kernel_rfl))<|za R R<|znr<|zp (Ac R R Fw)<|zp (Ab R R Kq R R)<|zp (Ac R R Fw)<|?_
 refine zp (Ab R R Kq R R)<|XL.call1 R R (Aml _ _) R<|zm R R<|?_
 refine XL.dec 10 R (fun g10=> ?_) (fun g10=> ?_)
 exact zp (Ac R R D0)<|zp (Ab R R Gi R R)<|zp (Ac R R D0)<|zp (Ab R R Gi R R)<|XL.call1 R R (Ajr _ _ _ (fun x _ y _=>Aob x y)) R<|zq R R R<|za R R<|zn<|zt<|z1 R R (rB (by by_cases h:a.voices=b.voices;(· rw [decide_eq_true h];exact Amr (Ce.eq_yes g10 h));(· rw [decide_eq_false h];exact dno (fun e=>h (by rw [e])))))
 exact zk 5 R<|zq R R R<|za R R<|zn<|zt<|z1 R R (rB (dno (fun e=>g10 (by rw [e]))))
def Mh.f (h:Mh):List D:= [dI h.site,dI h.num,dI h.m.count,dI h.m.unit,dI h.m.g0,dI h.m.g1,dI h.m.g2,dI h.m.g3,dI h.m.g4,dI h.m.g5,dI h.len,dI h.fifths,dB h.start,dI h.fin,dI h.ends,dI h.jump,dI h.labels,dI h.swing,dI h.brk, .v (.string ⟨h.reh.toArray⟩)]
theorem Mh.eqv_iff {a b:Mh}:((a.site=b.site∧a.num=b.num)∧(a.m.count=b.m.count∧a.m.unit=b.m.unit∧(a.m.g0=b.m.g0∧a.m.g1=b.m.g1∧a.m.g2=b.m.g2∧a.m.g3=b.m.g3∧a.m.g4=b.m.g4∧a.m.g5=b.m.g5))∧a.len=b.len∧a.fifths=b.fifths∧a.start=b.start∧a.fin=b.fin∧a.ends=b.ends∧a.jump=b.jump∧a.labels=b.labels∧a.swing=b.swing∧a.brk=b.brk∧(ByteArray.mk a.reh.toArray).toList=(ByteArray.mk b.reh.toArray).toList)↔a=b:=by
 constructor
 ·rintro ⟨⟨h1,h2⟩,⟨h3,h4,h5,h6,h7,h8,h9,h10⟩,h11,h12,h13,h14,h15,h16,h17,h18,h19,h20⟩
  obtain ⟨a1,a2,⟨a3,a4,a5,a6,a7,a8,a9,a10⟩,a11,a12,a13,a14,a15,a16,a17,a18,a19,a20⟩:=a
  obtain ⟨b1,b2,⟨b3,b4,b5,b6,b7,b8,b9,b10⟩,b11,b12,b13,b14,b15,b16,b17,b18,b19,b20⟩:=b
  simp only [Jn] at h1 h2 h3 h4 h5 h6 h7 h8 h9 h10 h11 h12 h13 h14 h15 h16 h17 h18 h19 h20
  subst h1 h2 h3 h4 h5 h6 h7 h8 h9 h10 h11 h12 h13 h14 h15 h16 h17 h18 h19 h20;rfl
 ·rintro rfl
  simp
theorem Js (m:Ms):XC Tryz.prog 72 [.agg (Ms.c m)] (fun r=>r= .agg (Mh.f m.h)):=by
 refine Aj Acy Tryz.func72 R R lb<|zr<|?_
 refine XL.step R (Aq 1 (l:= [.d (dI m.h.site), .d (dI m.h.num), .d (dI m.h.m.count), .d (dI m.h.m.unit), .d (dI m.h.m.g0), .d (dI m.h.m.g1), .d (dI m.h.m.g2), .d (dI m.h.m.g3), .d (dI m.h.m.g4), .d (dI m.h.m.g5), .d (dI m.h.len), .d (dI m.h.fifths), .d (dB m.h.start), .d (dI m.h.fin), .d (dI m.h.ends), .d (dI m.h.jump), .d (dI m.h.labels), .d (dI m.h.swing), .d (dI m.h.brk), .d (.v (.string ⟨m.h.reh.toArray⟩)), .d (.sl 3 (m.tempi.map Tm.c)), .d (.sl 2 (m.cells.map Ce.c))]) R R (by kernel_rfl))<|?_
 refine XL.step R (Al 2 (l:= [.d (dI 0), .d (dI 0), .d (dI 0), .d (dI 0), .d (dI 0), .d (dI 0), .d (dI 0), .d (dI 0), .d (dI 0), .d (dI 0), .d (dI 0), .d (dI 0), .d (dB false), .d (dI 0), .d (dI 0), .d (dI 0), .d (dI 0), .d (dI 0), .d (dI 0), .d (.v (.string ⟨#[]⟩))]) R Xd (by kernel_rfl))<|znr<|zp (Ac R R Amb)<|?_
 refine zp (Ae (s':= .d (.agg [dI m.h.site,dI m.h.num])) (Aa (Ad R R My R lb)) (by kernel_rfl))<|zp (Ac R R Gz)<|zp (Ae (s':= .d (.agg (Me.c m.h.m))) (Aa (Ad R R A7 R lb)) (by kernel_rfl))<|zp (Ac R R E2)<|zp (Ab R R Ai R R)<|zp (Ac R R S4)<|zp (Ab R R Ai R R)<|zp (Ac R R Ama)<|?_
 refine zp (Ab R R Oh R R)<|zp (Ac R R Al9)<|zp (Ab R R Ai R R)<|zp (Ac R R Al8)<|zp (Ab R R Ai R R)<|zp (Ac R R Al7)<|zp (Ab R R Ai R R)<|zp (Ac R R Al6)<|zp (Ab R R Ai R R)<|zp (Ac R R Al5)<|zp (Ab R R Ai R R)<|zp (Ac R R Ajh)<|zp (Ab R R Ai R R)<|?_
 refine zp (Ac R R Ajg)<|zp (Ab R R Nm R R)<|?_
 refine zp (Ae (s':= .d (.agg [dI m.h.site,dI m.h.num,dI m.h.m.count,dI m.h.m.unit,dI m.h.m.g0,dI m.h.m.g1,dI m.h.m.g2,dI m.h.m.g3,dI m.h.m.g4,dI m.h.m.g5,dI m.h.len,dI m.h.fifths,dB m.h.start,dI m.h.fin,dI m.h.ends,dI m.h.jump,dI m.h.labels,dI m.h.swing,dI m.h.brk, .v (.string ⟨m.h.reh.toArray⟩)])) (Aa (Ao (r:= [.d (dI m.h.site), .d (dI m.h.num), .d (dI m.h.m.count), .d (dI m.h.m.unit), .d (dI m.h.m.g0), .d (dI m.h.m.g1), .d (dI m.h.m.g2), .d (dI m.h.m.g3), .d (dI m.h.m.g4), .d (dI m.h.m.g5), .d (dI m.h.len), .d (dI m.h.fifths), .d (dB m.h.start), .d (dI m.h.fin), .d (dI m.h.ends), .d (dI m.h.jump), .d (dI m.h.labels), .d (dI m.h.swing), .d (dI m.h.brk), .d (.v (.string ⟨m.h.reh.toArray⟩))]) R Aor Xd (by kernel_rfl))) (by kernel_rfl))<|?_
 refine XL.step R (Ag (l':= [.d (dI m.h.site), .d (dI m.h.num), .d (dI m.h.m.count), .d (dI m.h.m.unit), .d (dI m.h.m.g0), .d (dI m.h.m.g1), .d (dI m.h.m.g2), .d (dI m.h.m.g3), .d (dI m.h.m.g4), .d (dI m.h.m.g5), .d (dI m.h.len), .d (dI m.h.fifths), .d (dB m.h.start), .d (dI m.h.fin), .d (dI m.h.ends), .d (dI m.h.jump), .d (dI m.h.labels), .d (dI m.h.swing), .d (dI m.h.brk), .d (.v (.string ⟨m.h.reh.toArray⟩))]) R R R R Aqy R lb (by kernel_rfl))<|?_
 refine zn<|zt<|?_
 exact Iz R (RV.cells R R R Aqj lb R) (R)
theorem B9 (a b:Ms):XC Tryz.prog 30 [.agg (Ms.c a), .agg (Ms.c b)] (fun r=>r=dB (decide (a=b))):=by
 refine Aj Adm Tryz.func30 R R lb<|zr<|?_
 refine XL.step R (Aq 2 (l:= [.d (dI a.h.site), .d (dI a.h.num), .d (dI a.h.m.count), .d (dI a.h.m.unit), .d (dI a.h.m.g0), .d (dI a.h.m.g1), .d (dI a.h.m.g2), .d (dI a.h.m.g3), .d (dI a.h.m.g4), .d (dI a.h.m.g5), .d (dI a.h.len), .d (dI a.h.fifths), .d (dB a.h.start), .d (dI a.h.fin), .d (dI a.h.ends), .d (dI a.h.jump), .d (dI a.h.labels), .d (dI a.h.swing), .d (dI a.h.brk), .d (.v (.string ⟨a.h.reh.toArray⟩)), .d (.sl 3 (a.tempi.map Tm.c)), .d (.sl 2 (a.cells.map Ce.c))]) R R (by kernel_rfl))<|?_
 refine XL.step R (Aq 3 (l:= [.d (dI b.h.site), .d (dI b.h.num), .d (dI b.h.m.count), .d (dI b.h.m.unit), .d (dI b.h.m.g0), .d (dI b.h.m.g1), .d (dI b.h.m.g2), .d (dI b.h.m.g3), .d (dI b.h.m.g4), .d (dI b.h.m.g5), .d (dI b.h.len), .d (dI b.h.fifths), .d (dB b.h.start), .d (dI b.h.fin), .d (dI b.h.ends), .d (dI b.h.jump), .d (dI b.h.labels), .d (dI b.h.swing), .d (dI b.h.brk), .d (.v (.string ⟨b.h.reh.toArray⟩)), .d (.sl 3 (b.tempi.map Tm.c)), .d (.sl 2 (b.cells.map Ce.c))]) R R (by kernel_rfl))<|?_
 refine za R R<|zn<|zs<|?_
 by_cases q9:((a.h.site=b.h.site∧a.h.num=b.h.num)∧(a.h.m.count=b.h.m.count∧a.h.m.unit=b.h.m.unit∧(a.h.m.g0=b.h.m.g0∧a.h.m.g1=b.h.m.g1∧a.h.m.g2=b.h.m.g2∧a.h.m.g3=b.h.m.g3∧a.h.m.g4=b.h.m.g4∧a.h.m.g5=b.h.m.g5))∧a.h.len=b.h.len∧a.h.fifths=b.h.fifths∧a.h.start=b.h.start∧a.h.fin=b.h.fin∧a.h.ends=b.h.ends∧a.h.jump=b.h.jump∧a.h.labels=b.h.labels∧a.h.swing=b.h.swing∧a.h.brk=b.h.brk∧(ByteArray.mk a.h.reh.toArray).toList=(ByteArray.mk b.h.reh.toArray).toList)
 by_cases q15:(a.tempi=b.tempi)
 refine Be [] (by kernel_rfl) (by kernel_rfl) (by kernel_rfl) (by decide)<|yp (Ae (s':= .d (.agg (Ms.c a))) (Aa (Ad R R A1 R lb)) (by kernel_rfl))<|ChK.cons R (CStep.call R (Js _) R)<|yp (Ae (s':= .d (.agg (Ms.c b))) (Aa (Ad R R A1 R lb)) (by kernel_rfl))<|ChK.cons R (CStep.call R (Js _) R)<|yp (Cd (Ps R R R) (q9))<|ym R R<|?_
 refine yp (Ac R R Gm)<|yp (Ab R R Qp R R)<|yp (Ac R R Gm)<|yp (Ab R R Qp R R)<|ChK.cons R (CStep.call R (Co (Za _ _) q15) R)<|yp (A4 R R (by conv=>lhs;whnf))<|?_
 refine ym R R<|yp (Ac R R C2)<|yp (Ab R R G1 R R)<|yp (Ac R R C2)<|yp (Ab R R G1 R R)<|ChK.cons R (CStep.call R (Ajt _ _ _ (fun x _ y _=>Aqa x y)) R)<|yp (A4 R R (by conv=>lhs;whnf))<|?_
 refine ya R R<|?_
 refine ChK.nil ⟨by kernel_rfl, ?_⟩
 exact zt<|z1 R R (rB (by by_cases h:a.cells=b.cells;(· rw [decide_eq_true h];exact Amr (Ms.eq_yes (Mh.eqv_iff.1 q9) q15 h));(· rw [decide_eq_false h];exact dno (fun e=>h (by rw [e])))))
 refine Be [] (by kernel_rfl) (by kernel_rfl) (by kernel_rfl) (by decide)<|yp (Ae (s':= .d (.agg (Ms.c a))) (Aa (Ad R R A1 R lb)) (by kernel_rfl))<|ChK.cons R (CStep.call R (Js _) R)<|yp (Ae (s':= .d (.agg (Ms.c b))) (Aa (Ad R R A1 R lb)) (by kernel_rfl))<|ChK.cons R (CStep.call R (Js _) R)<|yp (Cd (Ps R R R) (q9))<|ym R R<|?_
 refine yp (Ac R R Gm)<|yp (Ab R R Qp R R)<|yp (Ac R R Gm)<|yp (Ab R R Qp R R)<|ChK.cons R (CStep.call R (Atb (Za _ _) q15) R)<|yp (A4 R R (by conv=>lhs;whnf))<|?_
 refine ym R R<|ChK.skip R<|ChK.skip R<|ChK.skip R<|ChK.skip R<|ChK.skip R<|yp (A4 R R (by conv=>lhs;whnf))<|?_
 refine ya R R<|?_
 refine ChK.nil ⟨by kernel_rfl, ?_⟩
 exact zt<|z1 R R (rB (dno (fun e=>q15 (by rw [e]))))
 refine Be [] (by kernel_rfl) (by kernel_rfl) (by kernel_rfl) (by decide)<|yp (Ae (s':= .d (.agg (Ms.c a))) (Aa (Ad R R A1 R lb)) (by kernel_rfl))<|ChK.cons R (CStep.call R (Js _) R)<|yp (Ae (s':= .d (.agg (Ms.c b))) (Aa (Ad R R A1 R lb)) (by kernel_rfl))<|ChK.cons R (CStep.call R (Js _) R)<|yp (Cm (Ps R R R) (q9))<|ym R R<|?_
 refine ChK.skip R<|ChK.skip R<|ChK.skip R<|ChK.skip R<|ChK.skip R<|yp (A4 R R (by conv=>lhs;whnf))<|?_
 refine ym R R<|ChK.skip R<|ChK.skip R<|ChK.skip R<|ChK.skip R<|ChK.skip R<|yp (A4 R R (by conv=>lhs;whnf))<|?_
 refine ya R R<|?_
 refine ChK.nil ⟨by kernel_rfl, ?_⟩
 exact zt<|z1 R R (rB (dno (fun e=>q9 (Mh.eqv_iff.2 (by rw [e])))))
end Go.Proofs.YtaafemnkamfgnaaGreat
