/- Part 10 of what the statements need: lemmas and walks. -/
import Derived.Lib.OwnBridge
import Derived.Test.YtaafemnkamfgnaaGreatSl9
set_option linter.unusedVariables false
set_option linter.unusedSimpArgs false
set_option linter.unusedSectionVars false
set_option maxRecDepth 20000
set_option maxHeartbeats 8000000
namespace Go.Proofs.YtaafemnkamfgnaaGreat
open Go.RowKit
open Go.Sort in
theorem Akm {zs:List Int} {c:Array Value} (h:zs.length≤c.size):(putCells (Value.int .i64) 0 zs.toArray c).toList.take zs.length=zs.map (Value.int .i64):=by
 apply List.ext_getElem?
 intro k
 rw [List.getElem?_take,List.getElem?_map]
 by_cases hk:k<zs.length
 ·rw [if_pos hk,Array.getElem?_toList,putCells,Array.getElem?_mapIdx,Array.getElem?_eq_getElem (by omega),Option.map_some,if_pos ⟨by omega,by simpa using hk⟩,List.getElem?_eq_getElem hk,Option.map_some]
  congr 2
  rw [Nat.sub_zero,getElem!_pos _ k (by simpa using hk)]
  simp
 ·rw [if_neg hk,List.getElem?_eq_none (by omega)];rfl
abbrev ixs (zs:List Int):List (List D):=zs.map iv
theorem Ae8 {E:Env} {H:Hp} {β:Bt} {h:Xh} {w:World} {i:Nat} {zs:List Int} {L:Loc} (hs:Sim E H β h w) (hi:h i=some (.row 3 1 (ixs zs))) (hL:β i=some L):
  (L.v= .slice none 0 0∧zs= [])∨∃cap cur,L.v= .slice (some ⟨L.b,0,none⟩) zs.length cap∧L.sz=1∧E.w.heap.size≤L.b∧w.heap[L.b]? =some (.cells cur 3 (0,0))∧zs.length≤cap∧cap≤maxLen∧cur.size=cap∧cur.toList.take zs.length=zs.map (Value.int .i64):=by
 obtain ⟨hsz,hz,hvb,us,hown,hone,hcells⟩:=hs.obj i _ L hi hL
 have hn:(ixs zs).length=zs.length:=by simp [ixs]
 rw [hn] at hown
 rcases hown.2 with ⟨e1,e2⟩|⟨g,cap,cur,e1,e2,e3,e4,e5,e6,e7⟩
 ·exact .inl ⟨e1,List.length_eq_zero_iff.1 e2⟩
 ·have hg:=hvb g (by rw [e1];rfl)
  subst hg
  rw [Nat.mul_one] at e6 e7
  refine .inr ⟨cap,cur,e1,hsz,e2,e3,e4,e5,e6, ?_⟩
  rw [e7]
  have hl:us.length=zs.length:=by rw [hown.1,Nat.mul_one]
  apply List.ext_getElem?
  intro k
  by_cases hk:k<zs.length
  ·obtain ⟨u,h1,h2⟩:=hcells k 0 [dI zs[k]] (dI zs[k]) (by simp [ixs,hk];rfl) rfl
   rw [Nat.mul_one,Nat.add_zero] at h1
   rw [h1,Pm h2]
   simp [hk]
  ·rw [List.getElem?_eq_none (by omega),List.getElem?_eq_none (by simp;omega)]
open Go.Sort in
theorem Sim.putI {E:Env} {H:Hp} {β:Bt} {h:Xh} {w:World} {i q:Nat} {zs ys:List Int} {L:Loc} {cap:Nat} {cur:Array Value} (hs:Sim E H β h w) (hi:h i=some (.row 3 1 (ixs zs))) (hL:β i=some L)
  (hv:L.v= .slice (some ⟨L.b,0,none⟩) zs.length cap) (hb:E.w.heap.size≤L.b) (hc:w.heap[L.b]? =some (.cells cur 3 (0,0))) (hn:zs.length≤cap) (hm:cap≤maxLen) (hz:cur.size=cap) (hl:ys.length=zs.length):
  Sim E H β (h.set i (.row 3 1 (ixs ys))) (putRow (Value.int .i64) (Sort.ahead w q) L.b 0 ys.toArray):=by
 obtain ⟨hsz,_,hvb,_⟩:=hs.obj i _ L hi hL
 have s2:Sim E H β h (Sort.ahead w q):=hs.call ⟨rfl,rfl,rfl,Nat.le_refl _,fun _ _=>rfl⟩ (Hp.le.refl _) (fun b o u e=> .inl e) hs.imm
 have hcell:(putRow (Value.int .i64) (Sort.ahead w q) L.b 0 ys.toArray).heap[L.b]? =some (.cells (putCells (Value.int .i64) 0 ys.toArray cur) 3 (0,0)):=by
  show (w.heap.modify L.b _)[L.b]? =_
  rw [Array.getElem?_modify,if_pos rfl,hc];rfl
 have hcs:(putCells (Value.int .i64) 0 ys.toArray cur).size=cap:=by simp [putCells,hz]
 refine s2.turn hi hL rfl (Go.Lib.below_putRow hs.below hb) (fun b hb'=> ?_) ?_
 ·show (w.heap.modify L.b _)[b]? =w.heap[b]?
  rw [Array.getElem?_modify,if_neg]
  intro e
  exact hb' (by simp [XO.blk,hv,Value.ownBlock,e])
 ·have hlen:(ixs ys).length=zs.length:=by simp [ixs,hl]
  refine ⟨hsz,fun x hx=> ?_,hvb,ys.map (Value.int .i64),⟨by simp [ixs], .inr ⟨L.b,cap,_,by rw [hlen];exact hv,hb,hcell,by rw [hlen];exact hn,hm,by rw [Nat.mul_one];exact hcs, ?_⟩⟩,fun u hu=> ?_,fun k j x d hk hj=> ?_⟩
  ·obtain ⟨z,_,rfl⟩:=List.mem_map.1 hx;rfl
  ·rw [show (ixs ys).length*1=ys.length by simp [ixs]]
   exact Akm (by omega)
  ·obtain ⟨z,_,rfl⟩:=List.mem_map.1 hu;rfl
  ·rw [ixs,List.getElem?_map] at hk
   cases hy:ys[k]? with
   |none=>rw [hy] at hk;cases hk
   |some z=>
    rw [hy] at hk;cases hk
    match j with
    |0=>cases hj;exact ⟨.int .i64 z,by rw [Nat.mul_one,Nat.add_zero,List.getElem?_map,hy];rfl, .v _⟩
    |j+1=>simp [iv] at hj
open Go.Sort in
theorem Sim.grow {E:Env} {H:Hp} {β:Bt} {h:Xh} {w:World} (hs:Sim E H β h w) (os:Array Obj):Sim E H β h (Go.Sort.grow w os):=by
 have hb:Below w.heap.size w (Go.Sort.grow w os):=⟨rfl,rfl,rfl,by simp,fun k hk=>by simp only [Go.Sort.grow];rw [Array.getElem?_append_left hk]⟩
 exact hs.call hb (Hp.le.refl _) (fun b o u e=> .inl e) (hs.imm.below hb)
theorem Wx {w:World} {b:Nat} {cur:Array Value} {zs:List Int} (hc:w.heap[b]? =some (.cells cur 3 (0,0))) (ht:cur.toList.take zs.length=zs.map (Value.int .i64)):Go.Sort.Holds (Value.int .i64) w b 0 zs.toArray:=fun j hj=>by
 have hj':j<zs.length:=by simpa using hj
 have:cur[j]? =some (.int .i64 zs[j]):=by
  have h1:(cur.toList.take zs.length)[j]? =some (.int .i64 zs[j]):=by rw [ht];simp [hj']
  rw [List.getElem?_take,if_pos hj'] at h1
  simpa using h1
 refine ⟨?_,by simp [World.frozen?,hc]⟩
 simp [World.cell?,hc,this,hj']
def srt (zs:List Int):List Int:=zs.mergeSort fun x y=>decide (x≤y)
theorem Aeq (zs:List Int):(srt zs).length=zs.length:=List.length_mergeSort _
theorem Aep:srt []= []:=by simp [srt]
section
variable {n:Nat} {f:Fr} {h:Xh} {o:Oper} {ops rest:List Oper} {K:Co} {tys:Array TypeId}
theorem Aor {i:Nat} {x:Operand} {zs:List Int} (ho:o.op= .call {callee:= .value (.func 58),args:= #[x],argTypes:=tys}) (hx:ev f x= .own i) (hi:h i=some (.row 3 1 (ixs zs))) (hlen:zs.length<4611686018427387904):
  Step Tryz.prog n o f h .any f (h.set i (.row 3 1 (ixs (srt zs)))):=by
 intro E H β a w hs hfv hop
 have g:=hop x (by rw [ho];simp [Op.operands,Call.operands])
 rw [hx] at g
 obtain ⟨L,hL,hv⟩:=Fp g
 have fin:∀w',Sim E H β (h.set i (.row 3 1 (ixs (srt zs)))) w'→∃H' β' u,a.put o.dst (.tuple #[])=a.put o.dst u∧Sim E H' β' (h.set i (.row 3 1 (ixs (srt zs)))) w'∧FV n H' β' a f∧VS H' β' u .any:=fun w' k=>⟨H,β,_,rfl,k,hfv, .any _⟩
 unfold Oper.wp
 rw [M5 ho Adw,show (#[x]:Array Operand).map a.eval= #[a.eval x] by simp]
 rw [hv]
 rcases Ae8 hs hi hL with ⟨e1,rfl⟩|⟨cap,cur,e1,_,e2,e3,e4,e5,e6,e7⟩
 ·rw [e1]
  refine (Tryz.slices_Sort_int_none none 0 w).mono ?_
  rintro e w' ⟨rfl,rfl⟩
  exact fin _ (by rw [Aep,Xh.set_self hi];exact hs)
 ·rw [e1]
  refine (Tryz.slices_Sort_int L.b 0 cap zs w (Wx e3 e7) (Array.getElem?_eq_some_iff.1 e3).1 hlen).mono ?_
  rintro e w' ⟨rfl,q,os,rfl⟩
  exact fin _ ((hs.putI hi hL e1 e2 e3 e4 e5 e6 (Aeq zs)).grow os)
theorem Xn {h:Xh} {i:Nat} {o o2:XO}:((h.set i o).kill i).set i o2=(h.kill i).set i o2:=by
 funext j
 by_cases e:i=j
 ·subst e;rw [Xh.set_same,Xh.set_same]
 ·rw [Xh.set_ne _ _ e,Xh.set_ne _ _ e,Xh.kill_ne _ e,Xh.kill_ne _ e,Xh.set_ne _ _ e]
def cpt (zs:List Int):List Int:=Go.Lib.compact zs
theorem Afp (zs:List Int):(cpt zs).length≤zs.length:=Go.Lib.compact_length_le zs
theorem Afo:cpt []= []:=by have:=Afp [];exact List.length_eq_zero_iff.1 (by simpa using this)
theorem Sim.cutR {E:Env} {H:Hp} {β:Bt} {h:Xh} {w:World} {i m c:Nat} {ty:TypeId} {sz:Nat} {r:List (List D)} {L:Loc} {A:Option Addr} (hs:Sim E H β h w) (hi:h i=some (.row ty sz r)) (hL:β i=some L) (hv:L.v= .slice A r.length c) (hm:m≤r.length):
  Sim E H (β.set i (some ⟨.slice A m c,L.b,sz,noB⟩)) ((h.kill i).set i (.row ty sz (r.take m))) w:=by
 obtain ⟨h1,hz,hvb,us,hown,hone,hc⟩:=hs.obj i _ L hi hL
 have hn2:(r.take m).length=m:=by rw [List.length_take];omega
 have hblk:(Value.slice A m c).ownBlock=L.v.ownBlock:=by rw [hv];cases A<;>rfl
 have hmul:m*sz≤r.length*sz:=Nat.mul_le_mul_right _ hm
 refine hs.lay i _ _ (fun b hb=>⟨_,L,hi,hL, ?_⟩) ⟨rfl,fun x hx=>hz x (List.mem_of_mem_take hx),fun b hb=>hvb b (by rw [←hblk];exact hb),us.take (m*sz),⟨?_, ?_⟩,fun u hu=>hone u (List.mem_of_mem_take hu),fun k j x d hk hj=> ?_⟩
 ·simp only [XO.blk] at hb ⊢
  rw [←hblk];exact hb
 ·rw [hn2,List.length_take,hown.1];omega
 ·rw [hn2]
  rcases hown.2 with ⟨e1,e2⟩|⟨g,cap,cur,e1,e2,e3,e4,e5,e6,e7⟩
  ·rw [hv] at e1
   injection e1 with q1 q2 q3
   subst q1 q3
   have:m=0:=by omega
   subst this
   exact .inl ⟨rfl,rfl⟩
  ·rw [hv] at e1
   injection e1 with q1 q2 q3
   subst q1 q3
   refine .inr ⟨g,c,cur,rfl,e2,e3,by omega,e5,e6, ?_⟩
   rw [←e7,List.take_take,Nat.min_eq_left hmul]
 ·have hkm:k<m:=by have:=(List.getElem?_eq_some_iff.1 hk).1;rw [List.length_take] at this;omega
  rw [List.getElem?_take,if_pos hkm] at hk
  obtain ⟨u,h5,h6⟩:=hc k j x d hk hj
  have hjs:j<sz:=by have:=(List.getElem?_eq_some_iff.1 hj).1;rw [hz x (List.mem_of_getElem? hk)] at this;exact this
  have h7:(k+1)*sz≤m*sz:=Nat.mul_le_mul_right _ hkm
  rw [Nat.add_mul] at h7
  exact ⟨u,by rw [List.getElem?_take,if_pos (by omega)];exact h5,h6⟩
theorem Sim.cutI {E:Env} {H:Hp} {β:Bt} {h:Xh} {w:World} {i m c:Nat} {zs:List Int} {L:Loc} {A:Option Addr} (hs:Sim E H β h w) (hi:h i=some (.row 3 1 (ixs zs))) (hL:β i=some L) (hv:L.v= .slice A zs.length c) (hm:m≤zs.length):
  Sim E H (β.set i (some ⟨.slice A m c,L.b,1,noB⟩)) ((h.kill i).set i (.row 3 1 (ixs (zs.take m)))) w:=by
 have:=hs.cutR hi hL (by rw [List.length_map];exact hv) (by rw [List.length_map];exact hm)
 rw [←List.map_take] at this
 exact this
theorem Agc {i:Nat} {x:Operand} {zs:List Int} (ho:o.op= .call {callee:= .value (.func 59),args:= #[x],argTypes:=tys}) (hx:ev f x= .own i) (hi:h i=some (.row 3 1 (ixs zs))) (hlen:zs.length≤9223372036854775807):
  Step Tryz.prog n o f h (.own i) (Dt f i) ((h.kill i).set i (.row 3 1 (ixs (cpt zs)))):=by
 intro E H β a w hs hfv hop
 have g:=hop x (by rw [ho];simp [Op.operands,Call.operands])
 rw [hx] at g
 obtain ⟨L,hL,hv⟩:=Fp g
 unfold Oper.wp
 rw [M5 ho Adv,show (#[x]:Array Operand).map a.eval= #[a.eval x] by simp]
 rw [hv]
 rcases Ae8 hs hi hL with ⟨e1,rfl⟩|⟨cap,cur,e1,_,e2,e3,e4,e5,e6,e7⟩
 ·rw [e1]
  refine (Tryz.slices_Compact_int_empty none 0 w).mono ?_
  rintro e w' ⟨rfl,rfl⟩
  have:=hs.cutI hi hL e1 (Nat.le_refl _)
  rw [Afo]
  exact ⟨H,_,_,rfl,this,hfv.kill i _,VS.own (Bt.set_same _ _ _)⟩
 ·rw [e1]
  refine (Tryz.slices_Compact_int L.b 0 cap zs w (Wx e3 e7) hlen e4).mono ?_
  rintro e w' ⟨rfl,q,rfl⟩
  have hl:=Afp zs
  have hl2:(Go.Lib.compact zs++List.replicate (zs.length - (Go.Lib.compact zs).length) 0).length=zs.length:=by unfold cpt at hl;simp;omega
  have k:=(hs.putI (q:=q) hi hL e1 e2 e3 e4 e5 e6 hl2).cutI (m:=(cpt zs).length) (Xh.set_same _ _ _) hL (by rw [hl2];exact e1) (by rw [hl2];exact hl)
  rw [Xn,cpt,List.take_left] at k
  exact ⟨H,_,_,rfl,k,hfv.kill i _,VS.own (Bt.set_same _ _ _)⟩
end
def Jl (m:Ms):List Int:=cpt (srt ((slL m).map (·.on)))
theorem Ar8 {m:Ms} (h:slE m≠0):Jl m= []:=by rw [Jl,slL,if_pos h];simp [Aep,Afo]
theorem r2i {l l':List Int} {a b:Int} (h:l=l') (h2:a=b):D.tup [.sl 1 (l.map iv),dI a]= .tup [.sl 1 (l'.map iv),dI b]:=by rw [h,h2]
theorem Aet {m:Ms} (hF:m.fit):(slL m).length≤3000000000:=by
 unfold slL
 split
 ·exact Nat.zero_le _
 ·have:=Tj (L:=mlV m.h.m m.h.len) (l:=m.cells) (fun c hc=>(hF.c c hc).voices)
  have:=hF.cells
  omega
theorem Uy (m:Ms) (hF:m.fit) (hE:m.evs):XC Tryz.prog 21 [.agg (Ms.c m)] (fun r=>r= .tup [.sl 1 ((Jl m).map iv),dI (slE m)]):=by
 have hsl:=Aet hF
 refine Ap Ad8 Tryz.func21 R R lb<|zr<|?_
 refine XL.step R (At 1 (l:= [.d (dI m.h.site), .d (dI m.h.num), .d (dI m.h.m.count), .d (dI m.h.m.unit), .d (dI m.h.m.g0), .d (dI m.h.m.g1), .d (dI m.h.m.g2), .d (dI m.h.m.g3), .d (dI m.h.m.g4), .d (dI m.h.m.g5), .d (dI m.h.len), .d (dI m.h.fifths), .d (dB m.h.start), .d (dI m.h.fin), .d (dI m.h.ends), .d (dI m.h.jump), .d (dI m.h.labels), .d (dI m.h.swing), .d (dI m.h.brk), .d (.v (.string ⟨m.h.reh.toArray⟩)), .d (.sl 3 (m.tempi.map Tm.c)), .d (.sl 2 (m.cells.map Ce.c))]) R R (by kernel_rfl))<|?_
 refine za R R<|za R R<|znr<|zp (Ae (s':= .d (.agg (Ms.c m))) (Ac (Ad R R Cj R lb)) (by kernel_rfl))<|XL.call1 R R (Sb _ (by assumption) (by assumption)) R<|zm R R<|zp (As R R R)<|zp (As R R R)<|za R R<|za R R<|zn<|zs<|zr<|zm R R<|?_
 refine zp (A5 R R R)<|zn<|?_
 refine zd R (fun c15=> ?_) (fun c15=> ?_)
 refine zr<|zm R R<|za R R<|za R R<|zn<|zt<|?_
 exact A6 R (RV.nil (sz:=1) R R) (RV.tmp R R) (r2i (Ar8 (by assumption)).symm R)
 refine zi<|zr<|za R R<|zn<|zs<|zr<|zm R R<|XL.len R R R Tryz.underlying42 fun hl18=>zm R R<|zn<|Ah<|Dp 7801 6 3 1 R<|?_
 refine A4 (α:=Nat) (fun k=>k≤(slL m).length) (fun k=>mkF [(2, .d (.v (.slice none 0 0))),(3, .d (dI 0)),(6, .own 7801),(17, .d (.sl 5 ((slL m).map Slt.c))),(18, .d (dI (slL m).length)),(19, .d (dI k))]) (fun k=>mkH [(7801, .row 3 1 ((((slL m).take k).map (·.on)).map iv))]) (fun k=>(slL m).length - k) (0) (Nat.zero_le _) ?_ ?_ ?_
 exact fz ⟨sr,sr,sr,sr,sr,sr,trivial⟩
 exact gz ⟨R,trivial⟩
 intro k hk0
 refine zr<|zp (Au R R R)<|zn<|zs<|?_
 refine zd R (fun c20=> ?_) (fun c20=> ?_)
 have hk0a:k<(slL m).length:=by omega
 obtain ⟨x0,hx0⟩:=Az hk0a
 refine zi<|zs<|Ah<|zr<|zp (Aj R R R Cd hx0)<|zp (Ae (s':= .d (.agg (Slt.c x0))) (Bf R R U3 lb) (by kernel_rfl))<|XL.step R (Ax 8 (l:= [.d (dI 0), .d (dI 0), .d (dI 0), .d (dI 0), .d (dI 0)]) R Jm (by kernel_rfl))<|?_
 refine XL.step R (Af (l':= [.d (dI x0.staff), .d (dI x0.voice), .d (dI x0.ev), .d (dI x0.on), .d (dI x0.off)]) R R R R Xp R lb (by kernel_rfl))<|zng<|zp (Ao R (by conv=>lhs;whnf))<|?_
 refine zp (Aa R R E5)<|zp (Ab R R Ai R R)<|XL.step R (Bl 26 R Tryz.underlying45 D8 Fo R R (by omega) (by omega))<|XL.step R (A7 R Io (.own R) (Src.own R) (by unfold maxLen;simp;omega) (by simp;omega))<|zp (Ar R (by conv=>lhs;whnf))<|?_
 refine zn<|Ag (by kernel_rfl)<|zp (Al R R R (by omega) (by omega))<|zm R R<|zn<|?_
 exact An (k+1) (by omega) (by omega) (fz ⟨sr,sr,sr,sr,sr,sr,trivial⟩) (gz ⟨I6 (a:=x0.on) R (by rw [Bp hx0,List.map_append];rfl),trivial⟩)
 have hk0b:k=(slL m).length:=by omega
 refine Av<|zr<|zp (Ao R (by conv=>lhs;whnf))<|?_
 refine XL.step R (Aor (zs:=((slL m).take k).map (·.on)) R R R (by rw [List.length_map,List.length_take];omega))<|znr<|zp (Ao R (by conv=>lhs;whnf))<|?_
 refine XL.step R (Agc (zs:=srt (((slL m).take k).map (·.on))) R R R (by rw [Aeq,List.length_map,List.length_take];omega))<|zp (Ar R (by conv=>lhs;whnf))<|?_
 refine za R R<|zn<|zt<|B8 (i:=7801) R<|?_
 exact A6 R (RV.tmp R R) (RV.tmp R R) (r2i (by rw [hk0b,List.take_length];rfl) (by omega))
end Go.Proofs.YtaafemnkamfgnaaGreat
namespace Go.Proofs.YtaafemnkamfgnaaGreat
open Go.RowKit
inductive C3 where
 |bf|fr|af|fl|ff|mu|st
 deriving DecidableEq
def OpF (P:Program) (n:Nat) (ops:Array Oper) (o:Oper) (f:Fr) (h1:Xh) (s:S):Prop:=
 (Be ops f n o.guard=some true∧Acl P o (ev f) h1 [] s)∨(Be ops f n o.guard=some false∧s= .d (.v undef))
structure FOK (P:Program) (n:Nat) (ops:Array Oper) (κ:S→S) (hA hB hC:Xh) (o:Oper) (fA fB:Fr) (c:C3) (sA sB:S):Prop where
 a:(c= .bf∨c= .fr∨c= .ff)→OpF P n ops o fA hA sA∧sB=κ sA
 b:(c= .af∨c= .fr∨c= .fl∨c= .ff)→OpF P n ops o fB hB sB
 l:(c= .fl∨c= .ff)→OpF P n ops o fB hC sB
 m:c= .mu→Be ops fA n o.guard=some true∧Hx P n o fA hA 987654 sB κ hB
 s:c= .st→Be ops fB n o.guard=some true∧Hx P n o fB hB 987654 sB id hC
inductive ChF (P:Program) (n:Nat) (ops:Array Oper) (κ:S→S) (hA hB hC:Xh):List Oper→Fr→Fr→List C3→List S→List S→Fr→Prop where
 |nil (fA fB:Fr):ChF P n ops κ hA hB hC [] fA fB [] [] [] fB
 |step {o:Oper} {rest:List Oper} {fA fB f':Fr} {c:C3} {sA sB:S} {C:List C3} {LA LB:List S} (hok:FOK P n ops κ hA hB hC o fA fB c sA sB) (hr:ChF P n ops κ hA hB hC rest (A1 fA o.dst sA) (A1 fB o.dst sB) C LA LB f'):
   ChF P n ops κ hA hB hC (o::rest) fA fB (c::C) (sA::LA) (sB::LB) f'
def noI (L:List S):List (List Nat × S):=L.map fun s=>([],s)
theorem Ju {L:List S} {k:Nat} {s:S} (h:L[k]? =some s):(noI L)[k]? =some ([],s):=by rw [noI,List.getElem?_map,h];rfl
theorem P6 {L:List S} {k:Nat} {q:List Nat × S} (h:(noI L)[k]? =some q):L[k]? =some q.2∧q.1= []:=by
 rw [noI,List.getElem?_map] at h
 cases hl:L[k]? with
 |none=>rw [hl] at h;cases h
 |some s=>rw [hl] at h;cases h;exact ⟨rfl,rfl⟩
theorem ChF.ok {P:Program} {n:Nat} {ops:Array Oper} {κ:S→S} {hA hB hC:Xh} {l:List Oper} {fA fB f':Fr} {C:List C3} {LA LB:List S} (hc:ChF P n ops κ hA hB hC l fA fB C LA LB f'):
  C.length=l.length∧LA.length=l.length∧LB.length=l.length∧
  (∀k o c sA sB,l[k]? =some o→C[k]? =some c→LA[k]? =some sA→LB[k]? =some sB→FOK P n ops κ hA hB hC o (Ay fA l (noI LA) Cw k) (Ay fB l (noI LB) Cw k) c sA sB)∧Ay fB l (noI LB) Cw l.length=f':=by
 induction hc with
 |nil=>exact ⟨rfl,rfl,rfl,fun k o c qa qb e=>by simp at e,rfl⟩
 | @step o rest fA fB f' c sA sB C LA LB hok hr ih=>
  obtain ⟨i1,i2,i3,i4,i5⟩:=ih
  refine ⟨by simp [i1],by simp [i2],by simp [i3],fun k o' c' qa qb h1 h2 h3 h4=> ?_, ?_⟩
  ·cases k with
   |zero=>simp at h1 h2 h3 h4;subst h1 h2 h3 h4;exact hok
   |succ k=>
    have e1:noI (sA::LA)=([],sA)::noI LA:=rfl
    have e2:noI (sB::LB)=([],sB)::noI LB:=rfl
    rw [e1,e2,D6,D6];exact i4 k o' c' qa qb (by simpa using h1) (by simpa using h2) (by simpa using h3) (by simpa using h4)
  ·have e2:noI (sB::LB)=([],sB)::noI LB:=rfl
   rw [e2,List.length_cons,D6];exact i5
def Qv (ops:Array Oper) (p p2:Nat) (C:List C3):Bool:=
 (List.range C.length).all fun k=>
  match C[k]? with
  |some .bf=>Ca ops 9 p k && Ca ops 9 p2 k
  |some .af=>Ca ops 9 k p && Ca ops 9 p2 k
  |some .fl=>Ca ops 9 k p
  |some .mu=>Nat.beq k p && Ca ops 9 p2 k
  |some .st=>Nat.beq k p2 && Ca ops 9 k p
  |some .fr=>Ca ops 9 p2 k
  |some .ff=>true
  |none=>true
section
variable (P:Program) (n:Nat) (ops:Array Oper) (pre:List Oper) (p p2:Nat) (fA fB:Fr) (hA hB hC:Xh) (LA LB:List S) (E:Env)
def Anj (listed:Array Bool) (a:Act) (w:World):Prop:=
 (listed.size=ops.size∧(∀j o e,ops[j]? =some o→listed.getD j false=true→e∈o.after→Region.binds .any e=true→listed.getD e.on false=true)∧∀k,pre.length≤k→listed.getD k false=false)∧
  ((listed.getD p false = false ∧ listed.getD p2 false = false ∧ ∃ H β, Sim E H β hA w ∧ FV n H β a (Ay fA pre (noI LA) (fun j => listed.getD j false) pre.length)) ∨
   (listed.getD p false=true∧listed.getD p2 false=false∧∃H β,Sim E H β hB w∧FV n H β a (Ay fB pre (noI LB) (fun j=>listed.getD j false) pre.length))∨
   (listed.getD p2 false = true ∧ ∃ H β, Sim E H β hC w ∧ FV n H β a (Ay fB pre (noI LB) (fun j => listed.getD j false) pre.length)))
end
theorem Ajp {P:Program} {n:Nat} {ops:Array Oper} {pre:List Oper} {p p2:Nat} {fA fB:Fr} {hA hB hC:Xh} {LA LB:List S} {E:Env} {Q:Exit→Act→World→Prop} {κ:S→S} {C:List C3}
  (hops:∀j,j<pre.length→ops[j]? =pre[j]?) (hin:pre.all (inN n)=true) (hreg:Hn ops pre=true) (hf:∀t,fB t=κ (fA t)) (hCl:C.length=pre.length) (hAl:LA.length=pre.length) (hBl:LB.length=pre.length)
  (hok:∀k o c sA sB,pre[k]? =some o→C[k]? =some c→LA[k]? =some sA→LB[k]? =some sB→FOK P n ops κ hA hB hC o (Ay fA pre (noI LA) Cw k) (Ay fB pre (noI LB) Cw k) c sA sB)
  (hp:C[p]? =some .mu) (hp2:C[p2]? =some .st) (hcls:Qv ops p p2 C=true) {listed:Array Bool} {a:Act} {w:World} (hI:Anj n ops pre p p2 fA fB hA hB hC LA LB E listed a w) {i:Nat} (hi:i∈Region.ready .any ops listed) (hip0:i<pre.length):
  wpOp P ops Q i (fun a' w'=>Anj n ops pre p p2 fA fB hA hB hC LA LB E (listed.setIfInBounds i true) a' w') a w:=by
 obtain ⟨⟨hsz,hdown,hunp⟩,hcase⟩:=hI
 have hcl:∀k c,C[k]? =some c→match c with|C3.bf=>Ca ops 9 p k=true∧Ca ops 9 p2 k=true|C3.af=>Ca ops 9 k p=true∧Ca ops 9 p2 k=true|C3.fl=>Ca ops 9 k p=true|C3.mu=>k=p∧Ca ops 9 p2 k=true|C3.st=>k=p2∧Ca ops 9 k p=true|C3.ff=>True|C3.fr=>Ca ops 9 p2 k=true:=by
  intro k c hck
  unfold Qv at hcls
  have:=List.all_eq_true.1 hcls k (List.mem_range.2 (List.getElem?_eq_some_iff.1 hck).1)
  rw [hck] at this
  cases c with
  |mu=>simp only [Bool.and_eq_true] at this;exact ⟨Nat.eq_of_beq_eq_true this.1,this.2⟩
  |st=>simp only [Bool.and_eq_true] at this;exact ⟨Nat.eq_of_beq_eq_true this.1,this.2⟩
  |fr=>exact this
  |ff=>trivial
  |fl=>exact this
  |bf=>simpa [Bool.and_eq_true] using this
  |af=>simpa [Bool.and_eq_true] using this
 obtain ⟨hil,hunl,o,ho,hdeps⟩:=En hi
 have hil':i<pre.length:=hip0
 have hol:pre[i]? =some o:=by rw [←hops i hip0];exact ho
 obtain ⟨sA,hLA⟩:∃q,LA[i]? =some q:=⟨_,List.getElem?_eq_getElem (by omega)⟩
 obtain ⟨sB,hLB⟩:∃q,LB[i]? =some q:=⟨_,List.getElem?_eq_getElem (by omega)⟩
 obtain ⟨c,hC'⟩:∃q,C[i]? =some q:=⟨_,List.getElem?_eq_getElem (by omega)⟩
 have hunl':listed.getD i false=false:=by rw [←Gg true (by omega)];exact hunl
 have hdown':∀j o e,ops[j]? =some o→(fun j=>listed.getD j false) j=true→e∈o.after→Region.binds .any e=true→(fun j=>listed.getD j false) e.on=true:=fun j o e h1 h2 h3 h4=>hdown j o e (by simpa using h1) h2 h3 h4
 have hwl:∀d j,Ca ops (d+1) i j=true→listed.getD j false=true:=by
  intro d j hw
  unfold Ca at hw
  rw [ho] at hw
  simp only [List.any_eq_true,Bool.and_eq_true,Bool.or_eq_true] at hw
  obtain ⟨e,he,hb,h2⟩:=hw
  have hl:=hdeps e (by simpa using he) hb
  rcases h2 with h2|h2
  ·rw [←Nat.eq_of_beq_eq_true h2];exact hl
  ·exact B3 hdown' d e.on j h2 hl
 have hlo:∀t,t∈Bm ops o→∀j o',j<i→pre[j]? =some o'→o'.dst=some t→listed.getD j false=true:=by
  intro t ht j o' hj hj' hd
  exact hwl 2 j (Fv hreg hj hj' hol (by unfold Jg;rw [hd];simp [F1 ht]))
 have hhi:∀t,t∈Bm ops o→∀j o',i<j→pre[j]? =some o'→o'.dst=some t→listed.getD j false=false:=by
  intro t ht j o' hj hj' hd
  cases hlj:listed.getD j false with
  |false=>rfl
  |true=>
   have hw:=Fv hreg hj hol hj' (by unfold Jg;rw [hd];simp [F1 ht])
   have:=B3 hdown' 3 j i hw hlj
   rw [hunl'] at this;cases this
 have hcur:∀(f0:Fr) (L:List (List Nat × S)) t,t∈Bm ops o→Ay f0 pre L (fun j=>listed.getD j false) pre.length t=Ay f0 pre L Cw i t:=by
  intro f0 L t ht
  have h1:∀j o',i≤j→pre[j]? =some o'→o'.dst=some t→(fun j=>listed.getD j false) j=false:=by
   intro j o' hj hj' hd
   by_cases e:j=i
   ·subst e;exact hunl'
   ·exact hhi t ht j o' (by omega) hj' hd
  rw [Fd h1 pre.length (by omega),J0 (hlo t ht) i (Nat.le_refl _)]
 have hin':inN n o=true:=List.all_eq_true.1 hin o (List.mem_of_getElem? hol)
 have hoin:=hin'
 unfold inN at hoin
 rw [Bool.and_eq_true] at hoin
 have hopn:∀t,Operand.tmp t∈o.op.operands→t∈Bm ops o:=by
  intro t hx
  unfold Bm Oper.looksAt
  simp only [List.mem_append,List.mem_filterMap]
  exact .inr (.inl ⟨.tmp t,by simpa using hx,rfl⟩)
 have hev:∀(f0:Fr) (L:List (List Nat × S)),∀x∈o.op.operands,ev (Ay f0 pre L (fun j=>listed.getD j false) pre.length) x=ev (Ay f0 pre L Cw i) x:=by
  intro f0 L x hx
  cases x with
  |tmp t=>simp only [ev];exact hcur f0 L t (hopn t hx)
  |_=>rfl
 have hop:∀(f0:Fr) (L:List (List Nat × S)) (H:Hp) (β:Bt),FV n H β a (Ay f0 pre L (fun j=>listed.getD j false) pre.length)→∀x∈o.op.operands,VS H β (a.eval x) (ev (Ay f0 pre L Cw i) x):=by
  intro f0 L H β hfv x hx
  rw [←hev f0 L x hx]
  exact hfv.operands hin' x hx
 have hguard:∀(f0:Fr) (L:List (List Nat × S)) (H:Hp) (β:Bt),FV n H β a (Ay f0 pre L (fun j=>listed.getD j false) pre.length)→∀b,Be ops (Ay f0 pre L Cw i) n o.guard=some b→Region.wanted o (yielded ops a.tmps)=b:=by
  intro f0 L H β hfv b hb
  refine Ga hfv ?_
  rw [←hb]
  unfold Be
  cases hg:o.guard with
  |none=>rfl
  |some g=>
   obtain ⟨j,want⟩:=g
   simp only
   cases ht:(ops[j]?).bind (·.dst) with
   |none=>rfl
   |some t=>
    simp only
    have htn:t∈Bm ops o:=by
     unfold Bm Oper.looksAt
     rw [hg]
     simp only [List.mem_append]
     exact .inr (.inr (by rw [ht];simp))
    rw [hcur f0 L t htn]
 have hlisted':∀j,(listed.setIfInBounds i true).getD j false=if j=i then true else listed.getD j false:=by
  intro j
  by_cases e:j=i
  ·subst e
   simp [Array.getD_eq_getD_getElem?,show j<listed.size by omega]
  ·rw [if_neg e]
   simp [Array.getD_eq_getD_getElem?,Array.getElem?_setIfInBounds_ne (fun h=>e h.symm)]
 have hdown2:∀j o' e,ops[j]? =some o'→(listed.setIfInBounds i true).getD j false=true→e∈o'.after→Region.binds .any e=true→(listed.setIfInBounds i true).getD e.on false=true:=by
  intro j o' e hj hl he hb
  rw [hlisted'] at hl ⊢
  split
  ·rfl
  ·by_cases ej:j=i
   ·subst ej
    rw [ho] at hj;cases hj
    exact hdeps e he hb
   ·rw [if_neg ej] at hl
    exact hdown j o' e hj hl he hb
 have hslot:∀(f0:Fr) (L:List (List Nat × S)) (q:List Nat × S) (H':Hp) (β':Bt) (u:Value),L[i]? =some q→FV n H' β' a (Ay f0 pre L (fun j=>listed.getD j false) pre.length)→VS H' β' u q.2→FV n H' β' (a.put o.dst u) (Ay f0 pre L (fun j=>(listed.setIfInBounds i true).getD j false) pre.length):=by
  intro f0 L q H' β' u hLi hfv' hu
  have hp:=hfv'.put hu o.dst hoin.2
  refine ⟨hp.defers,hp.size,fun t ht=> ?_⟩
  have h1:=hp.slot t ht
  have hsame:∀j,j≠i→(fun j=>(listed.setIfInBounds i true).getD j false) j=(fun j=>listed.getD j false) j:=fun j hj=>by simp only;rw [hlisted',if_neg hj]
  by_cases hd:o.dst=some t
  ·have ht':t∈Bm ops o:=by unfold Bm;simp [hd]
   have e1:Ay f0 pre L (fun j=>(listed.setIfInBounds i true).getD j false) pre.length t=Ay f0 pre L (fun j=>(listed.setIfInBounds i true).getD j false) (i+1) t:=by
    refine Fd (fun j o' hj hj' hd'=> ?_) pre.length (by omega)
    show (listed.setIfInBounds i true).getD j false=false
    rw [hlisted',if_neg (by omega)]
    exact hhi t ht' j o' (by omega) hj' hd'
   have e2:Ay f0 pre L (fun j=>(listed.setIfInBounds i true).getD j false) (i+1) t=q.2:=by
    unfold Ay
    rw [hol,hLi]
    have hb:(listed.setIfInBounds i true).getD i false=true:=by rw [hlisted',if_pos rfl]
    simp only [hb,cond_true,A1,hd,Da,Bg]
   have e3:A1 (Ay f0 pre L (fun j=>listed.getD j false) pre.length) o.dst q.2 t=q.2:=by rw [hd];simp only [A1,Da,Bg,cond_true]
   rw [e1,e2]
   rw [e3] at h1
   exact h1
  ·have e1:=I2 (f:=f0) (L:=L) (lst:=fun j=>listed.getD j false) (t:=t) hsame (fun o' h=>by rw [hol] at h;cases h;exact hd) pre.length
   have e3:A1 (Ay f0 pre L (fun j=>listed.getD j false) pre.length) o.dst q.2 t=Ay f0 pre L (fun j=>listed.getD j false) pre.length t:=by
    cases hdd:o.dst with
    |none=>rfl
    |some t'=>
     have:t'≠t:=fun e=>hd (by rw [hdd,e])
     simp only [A1,Da,Bk this,cond_false]
   rw [e1]
   rw [e3] at h1
   exact h1
 have hsz':(listed.setIfInBounds i true).size=ops.size:=by simpa using hsz
 have hunp2:∀k,pre.length≤k→(listed.setIfInBounds i true).getD k false=false:=fun k hk=>by rw [hlisted',if_neg (by omega)];exact hunp k hk
 have fok:=hok i o c _ _ hol hC' hLA hLB
 have hcls1:=hcl i c hC'
 have hpp2:p≠p2:=fun e=>by rw [e,hp2] at hp;cases hp
 have hbase:(listed.setIfInBounds i true).size=ops.size∧(∀j o e,ops[j]? =some o→(listed.setIfInBounds i true).getD j false=true→e∈o.after→Region.binds .any e=true→(listed.setIfInBounds i true).getD e.on false=true)∧∀k,pre.length≤k→(listed.setIfInBounds i true).getD k false=false:=⟨hsz',hdown2,hunp2⟩
 have keep:∀j,j≠i→(listed.setIfInBounds i true).getD j false=listed.getD j false:=fun j hj=>by rw [hlisted',if_neg hj]
 have hgB:(noI LB)[i]? =some ([],sB):=Ju hLB
 have hgA:(noI LA)[i]? =some ([],sA):=Ju hLA
 unfold wpOp
 rw [ho]
 simp only
 have cas:∀(f0:Fr) (L:List S) (s:S) (hX:Xh) (H:Hp) (β:Bt),L[i]? =some s→OpF P n ops o (Ay f0 pre (noI L) Cw i) hX s→Sim E H β hX w→FV n H β a (Ay f0 pre (noI L) (fun j=>listed.getD j false) pre.length)→
   ∀K:Act→World→Prop,(∀a' w',(∃H' β',Sim E H' β' hX w'∧FV n H' β' a' (Ay f0 pre (noI L) (fun j=>(listed.setIfInBounds i true).getD j false) pre.length))→K a' w')→
   ((Region.wanted o (yielded ops a.tmps)=true∧o.wp P a w K NoQ)∨(Region.wanted o (yielded ops a.tmps)=false∧K (a.put o.dst undef) w)):=by
  intro f0 L s hX H β hL hop' hsim hfv K hK
  rcases hop' with ⟨hw,hcalm⟩|⟨hw,hs0⟩
  ·refine .inl ⟨hguard f0 (noI L) H β hfv _ hw,Cx (hcalm E H β a w hsim (fun _ e=>by cases e) (hop f0 (noI L) H β hfv)) ?_⟩
   rintro a' w' ⟨H',β',u,rfl,k1,k2,k3,_,k5⟩
   exact hK _ _ ⟨H',β',k1,hslot f0 (noI L) ([],s) H' β' u (Ju hL) (hfv.mono k2 k3) k5⟩
  ·exact .inr ⟨hguard f0 (noI L) H β hfv _ hw,hK _ _ ⟨H,β,hsim,hslot f0 (noI L) ([],s) H β undef (Ju hL) hfv (by rw [hs0];exact .d (.v _))⟩⟩
 have fin:∀K:Act→World→Prop,(Region.wanted o (yielded ops a.tmps)=true∧o.wp P a w K NoQ)∨(Region.wanted o (yielded ops a.tmps)=false∧K (a.put o.dst undef) w)→
   if Region.wanted o (yielded ops a.tmps)=true then o.wp P a w K Q∨(o.asks P a w∧LetsOut Q) else K (a.put o.dst undef) w:=by
  intro K h
  rcases h with ⟨h1,h2⟩|⟨h1,h2⟩
  ·rw [if_pos h1];exact .inl (Cx h2 fun _ _ h=>h)
  ·rw [if_neg (by rw [h1];decide)];exact h2
 rcases hcase with ⟨hpn,hpn2,H,β,hsim,hfv⟩|⟨hpy,hpn2,H,β,hsim,hfv⟩|⟨hpy2,H,β,hsim,hfv⟩
 ·by_cases hip:i=p
  ·subst hip
   have:c= .mu:=by rw [hC'] at hp;cases hp;rfl
   subst this
   obtain ⟨k1,k2⟩:=fok.m rfl
   refine fin _ (.inl ⟨hguard fA (noI LA) H β hfv _ k1,Cx (k2 _ (hev fA (noI LA)) E H β a w hsim hfv (hfv.operands hin')) ?_⟩)
   rintro a' w' ⟨H',β',u,rfl,q1,q2,_,q3⟩
   refine ⟨hbase, .inr (.inl ⟨by rw [hlisted',if_pos rfl],by rw [keep p2 (fun e=>hpp2 e.symm)];exact hpn2,H',β',q1,hslot fB (noI LB) ([],sB) H' β' u hgB ⟨q2.defers,q2.size,fun t ht=> ?_⟩ q3⟩)⟩
   have hrel := M4 (κ := κ) (l := pre) (LA := noI LA) (LB := noI LB) (lst := fun j => listed.getD j false) (fA := fA) (fB := fB) hf (by rw [noI, noI, List.length_map, List.length_map]; omega) (fun k qa' qb' ha hb hlk => by
    obtain ⟨ha1,_⟩:=P6 ha
    obtain ⟨hb1,_⟩:=P6 hb
    have hkl:k<pre.length:=by rw [←hAl];exact (List.getElem?_eq_some_iff.1 ha1).1
    obtain ⟨c',hC2⟩:∃q,C[k]? =some q:=⟨_,List.getElem?_eq_getElem (by omega)⟩
    have hokk:=hok k _ c' _ _ (List.getElem?_eq_getElem hkl) hC2 ha1 hb1
    have hck:=hcl k c' hC2
    cases c' with
    |bf=>exact (hokk.a (.inl rfl)).2
    |fr=>exact (hokk.a (.inr (.inl rfl))).2
    |ff=>exact (hokk.a (.inr (.inr rfl))).2
    |mu=>
     have:k=i:=hck.1
     subst this
     rw [hunl'] at hlk;cases hlk
    |af=>
     have:=B3 hdown' 9 k i hck.1 hlk
     rw [hunl'] at this;cases this
    |fl=>
     have:=B3 hdown' 9 k i hck hlk
     rw [hunl'] at this;cases this
    |st=>
     have:=B3 hdown' 9 k i hck.2 hlk
     rw [hunl'] at this; cases this) pre.length t
   rw [hrel]
   exact q2.slot t ht
  ·have hnw:Ca ops 9 i p=true→False:=fun h=>by
    have:=hwl 8 p h
    rw [hpn] at this;cases this
   have hcase2:c= .bf∨c= .fr∨c= .ff:=by
    cases c with
    |bf=>exact .inl rfl
    |fr=>exact .inr (.inl rfl)
    |ff=>exact .inr (.inr rfl)
    |mu=>exact absurd hcls1.1 hip
    |af=>exact (hnw hcls1.1).elim
    |fl=>exact (hnw hcls1).elim
    |st=>exact (hnw hcls1.2).elim
   have hip2:i≠p2:=fun e=>by subst e;rw [hC'] at hp2;cases hp2;rcases hcase2 with h|h|h<;>cases h
   exact fin _ (cas fA LA sA hA H β hLA (fok.a hcase2).1 hsim hfv _ fun a' w' ⟨H',β',k1,k2⟩=>⟨hbase, .inl ⟨by rw [keep p (fun e=>hip e.symm)];exact hpn,by rw [keep p2 (fun e=>hip2 e.symm)];exact hpn2,H',β',k1,k2⟩⟩)
 ·have hip:i≠p:=fun e=>by subst e;rw [hunl'] at hpy;cases hpy
  by_cases hip2:i=p2
  ·subst hip2
   have:c= .st:=by rw [hC'] at hp2;cases hp2;rfl
   subst this
   obtain ⟨k1,k2⟩:=fok.s rfl
   refine fin _ (.inl ⟨hguard fB (noI LB) H β hfv _ k1,Cx (k2 _ (hev fB (noI LB)) E H β a w hsim hfv (hfv.operands hin')) ?_⟩)
   rintro a' w' ⟨H',β',u,rfl,q1,q2,_,q3⟩
   exact ⟨hbase, .inr (.inr ⟨by rw [hlisted',if_pos rfl],H',β',q1,hslot fB (noI LB) ([],sB) H' β' u hgB q2 q3⟩)⟩
  ·have hcase2:c= .af∨c= .fr∨c= .fl∨c= .ff:=by
    cases c with
    |af=>exact .inl rfl
    |fr=>exact .inr (.inl rfl)
    |fl=>exact .inr (.inr (.inl rfl))
    |ff=>exact .inr (.inr (.inr rfl))
    |mu=>exact absurd hcls1.1 hip
    |st=>exact absurd hcls1.1 hip2
    |bf=>
     have:=B3 hdown' 9 p i hcls1.1 hpy
     rw [hunl'] at this;cases this
   exact fin _ (cas fB LB sB hB H β hLB (fok.b hcase2) hsim hfv _ fun a' w' ⟨H',β',k1,k2⟩=>⟨hbase, .inr (.inl ⟨by rw [keep p (fun e=>hip e.symm)];exact hpy,by rw [keep p2 (fun e=>hip2 e.symm)];exact hpn2,H',β',k1,k2⟩)⟩)
 ·have hip2:i≠p2:=fun e=>by subst e;rw [hunl'] at hpy2;cases hpy2
  have hnw:Ca ops 9 p2 i=true→False:=fun h=>by
   have:=B3 hdown' 9 p2 i h hpy2
   rw [hunl'] at this;cases this
  have hcase2:c= .fl∨c= .ff:=by
   cases c with
   |fl=>exact .inl rfl
   |ff=>exact .inr rfl
   |af=>exact (hnw hcls1.2).elim
   |fr=>exact (hnw hcls1).elim
   |mu=>exact (hnw hcls1.2).elim
   |st=>exact absurd hcls1.1 hip2
   |bf=>exact (hnw hcls1.2).elim
  exact fin _ (cas fB LB sB hC H β hLB (fok.l hcase2) hsim hfv _ fun a' w' ⟨H',β',k1,k2⟩=>⟨hbase, .inr (.inr ⟨by rw [keep p2 (fun e=>hip2 e.symm)];exact hpy2,H',β',k1,k2⟩)⟩)
theorem Akg {f0:Fr} {l:List Oper} {L:List (List Nat × S)} {m:Nat}:∀k,Ay f0 l L (fun j=>(Array.replicate m false).getD j false) k=f0:=by
 intro k
 induction k with
 |zero=>rfl
 |succ k ih=>
  unfold Ay
  cases l[k]? with
  |none=>exact ih
  |some o=>
   cases L[k]? with
   |none=>exact ih
   |some q=>
    have hz:(Array.replicate m false).getD k false=false:=by rw [Array.getD_eq_getD_getElem?,Array.getElem?_replicate];split<;>rfl
    simp only
    rw [hz,cond_false]
    exact ih
theorem An8 {P:Program} {n id:Nat} {pre suf:List Oper} {ops:Array Oper} {K:Co} {f f':Fr} {h hB hC:Xh} {κ:S→S} {C:List C3} {LA LB:List S} (p p2:Nat) (hopsE:ops=(pre++suf).toArray) (hne:0<suf.length) (hm:P.follows .mixedOrders=true) (hin:pre.all (inN n)=true) (hin2:suf.all (inN n)=true)
  (hreg:Hn ops pre=true) (hS:Mg ops pre.length=true) (hc:ChF P n ops κ h hB hC pre f (fun t=>κ (f t)) C LA LB f') (hp:C[p]? =some .mu) (hp2:C[p2]? =some .st) (hcls:Qv ops p p2 C=true) (hk:XL P n ops suf K f' hC):XW P n (.region id ops true) K f h:=by
 have hops:∀j,j<pre.length→ops[j]? =pre[j]? :=fun j hj=>by rw [hopsE];simp [List.getElem?_append_left hj]
 have hops2:∀j,suf[j]? =ops[pre.length+j]? :=fun j=>by rw [hopsE,List.getElem?_toArray,List.getElem?_append_right (by omega),Nat.add_sub_cancel_left]
 have hsize:ops.size=pre.length+suf.length:=by rw [hopsE];simp
 intro E H β a w hs hf
 obtain ⟨k1,k2,k3,k8,k10⟩:=hc.ok
 have hpl2:p2<pre.length:=by rw [←k1];exact (List.getElem?_eq_some_iff.1 hp2).1
 have hz:∀k,(Array.replicate ops.size false).getD k false=false:=fun k=>by
  rw [Array.getD_eq_getD_getElem?,Array.getElem?_replicate];split<;>rfl
 refine Ja (I:=Anj n ops pre p p2 f (fun t=>κ (f t)) h hB hC LA LB E) pre.length suf hm hops2 hsize hne hS ⟨⟨by simp,fun j o e _ hj=>(by rw [hz] at hj;cases hj),fun k _=>hz k⟩, .inl ⟨hz p,hz p2,H,β,hs.drew,by rw [Akg];exact hf⟩⟩ (fun _ _ _ hI=>hI.1) ?_ ?_
 ·intro listed a w hI i hi hip
  exact Ajp hops hin hreg (fun _=>rfl) k1 k2 k3 k8 hp hp2 hcls hI hi hip
 ·rintro listed a w ⟨_,hcase⟩ hall
  rcases hcase with ⟨_,hpn,_⟩|⟨_,hpn,_⟩|⟨_,H,β,hsim,hfv⟩
  ·rw [hall p2 hpl2] at hpn;cases hpn
  ·rw [hall p2 hpl2] at hpn;cases hpn
  ·refine hk hin2 E H β a w hsim ?_
   rw [Pe hall pre.length (Nat.le_refl _),k10] at hfv
   exact hfv
def ChFK (P:Program) (n:Nat) (ops:Array Oper) (κ:S→S) (hA hB hC:Xh) (rest:List Oper) (fA fB:Fr) (acc:List C3) (G:List C3→Fr→Prop):Prop:=∃C LA LB f',ChF P n ops κ hA hB hC rest fA fB C LA LB f'∧G (acc++C) f'
section
variable {P:Program} {n:Nat} {ops:Array Oper} {κ:S→S} {hA hB hC:Xh} {rest:List Oper} {fA fB:Fr} {o:Oper} {s s':S} {acc:List C3} {G:List C3→Fr→Prop}
theorem ChFK.nil (hg:G acc fB):ChFK P n ops κ hA hB hC [] fA fB acc G:=⟨[], [], [],fB, .nil _ _,by simpa using hg⟩
theorem ChFK.step {c:C3} (hok:FOK P n ops κ hA hB hC o fA fB c s s') (hr:ChFK P n ops κ hA hB hC rest (A1 fA o.dst s) (A1 fB o.dst s') (acc++ [c]) G):ChFK P n ops κ hA hB hC (o::rest) fA fB acc G:=by
 obtain ⟨C,LA,LB,f',k1,k2⟩:=hr
 refine ⟨_,_,_,f', .step hok k1, ?_⟩
 rw [List.append_assoc] at k2
 exact k2
theorem Hg {f:Fr} {h:Xh} (hw:Be ops f n o.guard=some true) (hc:CStep P o f h [] s h):OpF P n ops o f h s:= .inl ⟨hw,by obtain ⟨_,_,k⟩:=hc;exact k h (HLe.refl _)⟩
theorem ChFK.ff (hw:Be ops fA n o.guard=some true) (hw':Be ops fB n o.guard=some true) (hc:CStep P o fA hA [] s hA) (hc':CStep P o fB hB [] s' hB) (hc2:CStep P o fB hC [] s' hC) (hk:κ s=s') (hr:ChFK P n ops κ hA hB hC rest (A1 fA o.dst s) (A1 fB o.dst s') (acc++ [.ff]) G):ChFK P n ops κ hA hB hC (o::rest) fA fB acc G:=
 .step ⟨fun _=>⟨Hg hw hc,hk.symm⟩,fun _=>Hg hw' hc',fun _=>Hg hw' hc2,fun e=>absurd e (by decide),fun e=>absurd e (by decide)⟩ hr
theorem ChFK.mus (hw:Be ops fA n o.guard=some true) (hκ:κ=fun s=>s) (hc:∀f',(∀x∈o.op.operands,ev f' x=ev fA x)→Step P n o f' hA s' f' hB) (hr:ChFK P n ops κ hA hB hC rest (A1 fA o.dst .any) (A1 fB o.dst s') (acc++ [.mu]) G):ChFK P n ops κ hA hB hC (o::rest) fA fB acc G:=
 .step ⟨fun e => absurd e (by decide), fun e => absurd e (by decide), fun e => absurd e (by decide), fun _ => ⟨hw, fun f' he E H β a w hs hf hop => Cx (hc f' he E H β a w hs hf hop) (by
  rintro a' w' ⟨H',β',u,e,k1,k2,k3⟩
  subst hκ
  exact ⟨H', β', u, e, k1, k2, .inl rfl, k3⟩)⟩, fun e => absurd e (by decide)⟩ hr
theorem ChFK.bf (hw:Be ops fA n o.guard=some true) (hc:CStep P o fA hA [] s hA) (hk:κ s=s') (hr:ChFK P n ops κ hA hB hC rest (A1 fA o.dst s) (A1 fB o.dst s') (acc++ [.bf]) G):ChFK P n ops κ hA hB hC (o::rest) fA fB acc G:=
 .step ⟨fun _=>⟨Hg hw hc,hk.symm⟩,fun e=>absurd e (by decide),fun e=>absurd e (by decide),fun e=>absurd e (by decide),fun e=>absurd e (by decide)⟩ hr
theorem ChFK.fr (hw:Be ops fA n o.guard=some true) (hw':Be ops fB n o.guard=some true) (hc:CStep P o fA hA [] s hA) (hc':CStep P o fB hB [] s' hB) (hk:κ s=s') (hr:ChFK P n ops κ hA hB hC rest (A1 fA o.dst s) (A1 fB o.dst s') (acc++ [.fr]) G):ChFK P n ops κ hA hB hC (o::rest) fA fB acc G:=
 .step ⟨fun _=>⟨Hg hw hc,hk.symm⟩,fun _=>Hg hw' hc',fun e=>absurd e (by decide),fun e=>absurd e (by decide),fun e=>absurd e (by decide)⟩ hr
theorem ChFK.af (hw':Be ops fB n o.guard=some true) (hc':CStep P o fB hB [] s' hB) (hr:ChFK P n ops κ hA hB hC rest (A1 fA o.dst .any) (A1 fB o.dst s') (acc++ [.af]) G):ChFK P n ops κ hA hB hC (o::rest) fA fB acc G:=
 .step ⟨fun e=>absurd e (by decide),fun _=>Hg hw' hc',fun e=>absurd e (by decide),fun e=>absurd e (by decide),fun e=>absurd e (by decide)⟩ hr
theorem ChFK.fl (hw':Be ops fB n o.guard=some true) (hc':CStep P o fB hB [] s' hB) (hc2:CStep P o fB hC [] s' hC) (hr:ChFK P n ops κ hA hB hC rest (A1 fA o.dst .any) (A1 fB o.dst s') (acc++ [.fl]) G):ChFK P n ops κ hA hB hC (o::rest) fA fB acc G:=
 .step ⟨fun e=>absurd e (by decide),fun _=>Hg hw' hc',fun _=>Hg hw' hc2,fun e=>absurd e (by decide),fun e=>absurd e (by decide)⟩ hr
theorem ChFK.mu (hw:Be ops fA n o.guard=some true) (hc:∀hF,HLe hA hF→Hx P n o fA hF 987654 s' κ (hF.by (fun k _=>hB k))) (hr:ChFK P n ops κ hA hB hC rest (A1 fA o.dst .any) (A1 fB o.dst s') (acc++ [.mu]) G):ChFK P n ops κ hA hB hC (o::rest) fA fB acc G:=
 .step ⟨fun e=>absurd e (by decide),fun e=>absurd e (by decide),fun e=>absurd e (by decide),fun _=>⟨hw,hc hA (HLe.refl _)⟩,fun e=>absurd e (by decide)⟩ hr
theorem ChFK.st (hw:Be ops fB n o.guard=some true) (hc:∀f',(∀x∈o.op.operands,ev f' x=ev fB x)→Step P n o f' hB s' f' hC) (hr:ChFK P n ops κ hA hB hC rest (A1 fA o.dst .any) (A1 fB o.dst s') (acc++ [.st]) G):ChFK P n ops κ hA hB hC (o::rest) fA fB acc G:=
 .step ⟨fun e => absurd e (by decide), fun e => absurd e (by decide), fun e => absurd e (by decide), fun e => absurd e (by decide), fun _ => ⟨hw, fun f' he E H β a w hs hf hop => Cx (hc f' he E H β a w hs hf hop) (by
  rintro a' w' ⟨H',β',u,e,k1,k2,k3⟩
  exact ⟨H', β', u, e, k1, k2, .inl rfl, k3⟩)⟩⟩ hr
end
theorem Zv {P:Program} {n:Nat} {o:Oper} {f:Fr} {h hC:Xh} {t m:Nat} {x y:Operand} {i off:Nat} {l cs l':List S} (ho:o.op= .store t x y) (hx:ev f x= .ptr i 0 off) (hi:h i=some (.box l)) (hc:Du h (ev f y)=some cs) (hz:sizeB P t m=true) (hm:cs.length=m) (hoff:off+m≤l.length) (hl:sets l off cs=l') (hh:HSub (h.set i (.box l')) hC):
  ∀f',(∀x∈o.op.operands,ev f' x=ev f x)→Step P n o f' h (.d (.v undef)) f' hC:=fun f' he E H β a w hs hf hop=>by
 have e1:=he x (by rw [ho];simp [Op.operands])
 have e2:=he y (by rw [ho];simp [Op.operands])
 refine Cx (Af (n:=n) (f:=f') ho (by rw [e1];exact hx) hi (by rw [e2];exact hc) hz hm hoff hl E H β a w hs hf hop) ?_
 rintro a' w' ⟨H',β',u,e,k1,k2,k3⟩
 exact ⟨H',β',u,e,k1.drop hh,k2,k3⟩
theorem Zu {P:Program} {n:Nat} {o:Oper} {f:Fr} {h hC:Xh} {t m:Nat} {x y:Operand} {i k off:Nat} {ty:TypeId} {sz:Nat} {ls:List Nat} (ls':List Nat) {l l':List (List T)} {z:List T} {cs:List S} (ho:o.op= .store t x y) (hx:ev f x= .ptr i k off) (hi:h i=some (.tree ty sz ls l)) (hk:l[k]? =some z) (hc:Du h (ev f y)=some cs)
  (hz:sizeB P t m=true) (hm:cs.length=m) (hoff:off+m≤z.length) (hsub:ls.all (fun j=>B1 j ls')=true) (hcs:cs.all (fun d=>d.toT.inn ls')=true) (hl':l.set k (sets z off (cs.map S.toT))=l') (hh:HSub (h.set i (.tree ty sz ls' l')) hC):
  ∀f',(∀x∈o.op.operands,ev f' x=ev f x)→Step P n o f' h (.d (.v undef)) f' hC:=fun f' he E H β a w hs hf hop=>by
 have e1:=he x (by rw [ho];simp [Op.operands])
 have e2:=he y (by rw [ho];simp [Op.operands])
 refine Cx (Le (n:=n) (f:=f') ls' ho (by rw [e1];exact hx) hi hk (by rw [e2];exact hc) hz hm hoff hsub hcs hl' E H β a w hs hf hop) ?_
 rintro a' w' ⟨H',β',u,e,k1,k2,k3⟩
 exact ⟨H',β',u,e,k1.drop hh,k2,k3⟩
theorem Aeh {P:Program} {n id:Nat} {l:List Oper} {K:Co} {f:Fr} {h:Xh} (p p2 q:Nat) (κ:S→S) (hB hC:Xh) (hm:P.follows .mixedOrders=true) (hin:l.all (inN n)=true) (hreg:Hn l.toArray (l.take q)=true) (hS:(Nat.blt q l.length && Mg l.toArray q)=true)
  (hc:ChFK P n l.toArray κ h hB hC (l.take q) f (fun t=>κ (f t)) [] (fun C f'=>(C[p]? =some .mu∧C[p2]? =some .st∧Qv l.toArray p p2 C=true)∧XL P n l.toArray (l.drop q) K f' hC)):XW P n (.region id l.toArray true) K f h:=by
 obtain ⟨C,LA,LB,f',k1,⟨k2,k3,k4⟩,k5⟩:=hc
 rw [Bool.and_eq_true] at hS
 have hp:=El hS.1
 rw [←List.take_append_drop q l,List.all_append,Bool.and_eq_true] at hin
 exact An8 p p2 (by rw [List.take_append_drop]) (by rw [List.length_drop];omega) hm hin.1 hin.2 hreg (by rw [List.length_take,Nat.min_eq_left (by omega)];exact hS.2) k1 k2 k3 k4 k5
end Go.Proofs.YtaafemnkamfgnaaGreat
namespace Go.Proofs.YtaafemnkamfgnaaGreat
open Go.RowKit
theorem K5 {P:Program} {o:Oper} {e:Operand→S} {h:Xh} {t sz n:Nat} {x y:Operand} {α:Type} {l:List α} {g:α→List D} (ho:o.op= .slice t x none (some y) none) (hx:e x= .d (.sl sz (l.map g))) (hy:e y= .d (.v (.int .i64 (min (l.length:Int) (n:Int))))) (hf:elB P t sz=true):Bi P o e h (.d (.sl sz ((l.take n).map g))):=by
 have q:=Dv (h:=h) (a:=0) (b:=min l.length n) ho hx hf .no (Bd.ati hy (by omega)) (Nat.zero_le _) (Nat.min_le_left _ _)
 refine Ae q ?_
 rw [List.drop_zero,Nat.min_comm, ←List.take_take,List.take_length]
theorem Vi {P:Program} {o:Oper} {e:Operand→S} {h:Xh} {t n:Nat} {x y:Operand} {l:List UInt8} (ho:o.op= .slice t x none (some y) none) (hx:e x= .d (.v (.string ⟨l.toArray⟩))) (hy:e y= .d (.v (.int .i64 (min (l.length:Int) (n:Int))))) (hu:P.underlying t=some .string):Bi P o e h (.d (.v (.string ⟨(l.take n).toArray⟩))):=fun E H β ρ w _ hop=>by
 have g:=hop x (by rw [ho];simp [Op.operands])
 have g2:=hop y (by rw [ho];simp [Op.operands])
 rw [hx] at g
 rw [hy] at g2
 refine ⟨_, ?_, .d (.v (.string ⟨(l.take n).toArray⟩))⟩
 have hm:(min (l.length:Int) (n:Int))=((min l.length n:Nat):Int):=by omega
 have hsz:(ByteArray.mk l.toArray).size=l.length:=by simp [ByteArray.size]
 have hlt:(0:Int)≤((min l.length n:Nat):Int)∧((min l.length n:Nat):Int)≤(l.length:Int):=⟨by omega,by omega⟩
 have hex:(ByteArray.mk l.toArray).extract 0 (min l.length n)=⟨(l.take n).toArray⟩:=by
  apply ByteArray.ext
  rw [ByteArray.data_extract]
  simp [List.take_take]
  omega
 unfold execOp
 simp only [ho,Dm g,Dm g2,hm,Instr.sliceAt,Option.map_none,Option.map_some,Sem.run_bind,run_underlying hu,Result.andThen_ok,Instr.slice,Instr.sliceBounds,Instr.sliceBound,hsz,Sem.run_pure,Option.isSome_none,Bool.false_eq_true,if_false,asInt,asIntOf,hlt,and_self,if_true,Int.toNat_natCast,hex]
theorem Sim.subcut {E:Env} {H:Hp} {β:Bt} {h:Xh} {w:World} (s:Sim E H β h w) {i b k m:Nat} {ty:TypeId} {sz:Nat} {r:List (List D)} {l:List S} (hb:h b=some (.box l)) (hk:l[k]? =some (.sub i 0 m)) (hi:h i=some (.row ty sz r)) (hib:i≠b):
  ∃β',Sim E H β' (((h.kill i).set i (.row ty sz (r.take m))).set b (.box ((S.killL i l).set k (.own i)))) w∧∀{n:Nat} {a:Act} {f:Fr},FV n H β a f→FV n H β' a (Dt f i):=by
 have keep:∀Lo,((h.kill i).set i (.row ty sz (r.take m))) b=some (.box (S.killL i l))∧(β.set i Lo) b=β b:=fun Lo=>⟨by rw [Xh.set_ne _ _ hib,Xh.kill_ne _ hib,hb];rfl,Bt.set_ne _ _ hib⟩
 cases hL:β b with
 |none=>
  have s2:Sim E H (β.set i none) ((h.kill i).set i (.row ty sz (r.take m))) w:=(s.kill i none).blind (Bt.set_same _ _ _) rfl
  exact ⟨β.set i none,s2.blind (by rw [(keep none).2,hL]) rfl,fun hf=>hf.kill i none⟩
 |some Lb=>
  obtain ⟨h1,h0,us,t,h2,h3,h4⟩:=s.obj b _ Lb hb hL
  have hku:k<us.size:=by have:=(List.getElem?_eq_some_iff.1 hk).1;omega
  obtain ⟨L,A,n,c,hLi,hv,_,hmn,hu⟩:=X1 (h4 k us[k] _ (Array.getElem?_eq_getElem hku) hk)
  have hu':us[k]= .slice A m c:=by
   rw [hu,Nat.zero_mul,Nat.sub_zero,Nat.sub_zero]
   split
   ·rfl
   ·rename_i hc
    obtain ⟨_,_,_,_,hown,_,_⟩:=s.obj i _ L hi hLi
    rcases hown.2 with ⟨e1,_⟩|⟨g,cap,cur,e1,_⟩
    ·rw [hv] at e1;injection e1 with q1 q2 q3;subst q1;rfl
    ·rw [hv] at e1;injection e1 with q1 q2 q3;subst q1;simp [Go.WideShapes.add_plain]
  have hrn:n=r.length:=by
   obtain ⟨_,_,_,_,hown,_,_⟩:=s.obj i _ L hi hLi
   rcases hown.2 with ⟨e1,e2⟩|⟨g,cap,cur,e1,_⟩
   ·rw [hv] at e1;injection e1 with q1 q2 q3;omega
   ·rw [hv] at e1;injection e1 with q1 q2 q3
  subst hrn
  have s2:=s.cutR hi hLi hv hmn
  refine ⟨_,s2.turn (o:= .box (S.killL i l)) (keep (some ⟨.slice A m c,L.b,sz,noB⟩)).1 (by rw [(keep (some ⟨.slice A m c,L.b,sz,noB⟩)).2,hL]) rfl s2.below (fun _ _=>rfl) ⟨h1,by rw [List.length_set,S.killL_length];exact h0,us,t,h2,by rw [List.length_set,S.killL_length];exact h3,fun j u q hj hq=> ?_⟩,fun hf=>hf.kill i _⟩
  by_cases e:k=j
  ·subst e
   rw [List.getElem?_set_self (by rw [S.killL_length];omega)] at hq
   cases hq
   rw [Array.getElem?_eq_getElem hku] at hj
   cases hj
   rw [hu']
   exact VS.own (L:=⟨.slice A m c,L.b,sz,noB⟩) (Bt.set_same _ _ _)
  ·rw [List.getElem?_set_ne e,S.killL_get] at hq
   cases hl:l[j]? with
   |none=>rw [hl] at hq;cases hq
   |some q'=>rw [hl] at hq;cases hq;exact (h4 j u q' hj hl).kill i _
theorem Aht {P:Program} {n:Nat} {c:Code} {K:Co} {f:Fr} {h:Xh} (i b k m:Nat) {ty:TypeId} {sz:Nat} {r r':List (List D)} {l l':List S} (hb:h b=some (.box l)) (hk:l[k]? =some (.sub i 0 m)) (hi:h i=some (.row ty sz r)) (hib:i≠b) (hr:r.take m=r') (hl:(S.killL i l).set k (.own i)=l')
  (hc:XW P n c K (Dt f i) (((h.kill i).set i (.row ty sz r')).set b (.box l'))):XW P n c K f h:=fun E H β a w hs hf=>by
 subst hr hl
 obtain ⟨β',s2,f2⟩:=hs.subcut hb hk hi hib
 exact hc E H β' a w s2 (f2 hf)
theorem Yf {P:Program} {n:Nat} {o:Oper} {f:Fr} {h:Xh} {t:Nat} {x y:Operand} {i j p q off:Nat} {l l':List S} (ho:o.op= .store t x y) (hx:ev f x= .ptr i 0 off) (hi:h i=some (.box l)) (hy:ev f y= .sub j p q) (hz:sizeB P t 1=true) (hoff:off+1≤l.length) (hl:sets l off [.sub j p q]=l'):
  Step P n o f h (.d (.v undef)) f (h.set i (.box l')):=by
 subst hl
 intro E H β a w hs hf hop
 have g1:=hop x (by rw [ho];simp [Op.operands])
 have g2:=hop y (by rw [ho];simp [Op.operands])
 rw [hx] at g1
 rw [hy] at g2
 obtain ⟨L,hL,hp⟩:=Fw g1
 rw [Nat.zero_mul,Nat.zero_add] at hp
 have h1:(a.eval y).oneCell'=true:=by obtain ⟨_,_,_,_,_,_,_,_,hu⟩:=X1 g2;rw [hu];rfl
 have hcs:=Xg h1
 obtain ⟨w', r1, r2⟩ := J1 (P := P) (off := off) hL (a.eval y).cells.toList [.sub j p q] 0 l h w hs hi (by rw [hcs]; rfl) (fun k v s hj hs' => by
  rw [hcs] at hj
  match k with
  |0=>cases hj;cases hs';exact ⟨g2,h1⟩
  | k + 1 => simp at hs') (by rw [hcs]; simpa using hoff)
 have hr:(execOp a.eval o).run P w= .ok .skip w':=by
  have hsz:(a.eval y).cells.size=1:=by rw [hcs];rfl
  unfold execOp
  simp only [ho,Instr.storeAt,hp,Instr.sureAddr,Sem.run_bind,Sem.run_pure,Result.andThen_ok,storeVar,sizeB.run hz,hsz,ne_eq,not_true_eq_false,if_false,r1]
 unfold Oper.wp
 rw [hr]
 exact ⟨H,β,_,rfl,r2,hf, .d (.v _)⟩
structure Ev.room (e:Ev):Prop where
 heads:e.heads.length*40≤140737488355328
 graces:e.graces.length*40≤140737488355328
 lyr:e.lyr.length*24≤140737488355328
def Om (s:Sy):Sy:=⟨s.text.take 30,s.link⟩
def On (e:Ev):Ev:={e with heads:=e.heads.take 5,graces:=e.graces.take 4,lyr:=(e.lyr.take 5).map Om}
def shSys (l:List Sy) (k:Nat):List Sy:=(l.take k).map Om++l.drop k
theorem Ac6 (l:List Hd) (h:l.length*40≤140737488355328):XS Tryz.prog 140 [.sl 5 (l.map Hd.c)] (.own 5) [(5, .row 200 5 ((l).map Hd.c))]:=by
 refine D2 Qz Tryz.func140 R R lb (by kernel_rfl) (by kernel_rfl)<|zr<|za R R<|zn<|zs<|zr<|zm R R<|?_
 refine XL.eqnil R R R Tryz.underlying55 (fun hn4=> ?_) ?_
 refine zn<|A0 (by kernel_rfl) R<|zr<|za R R<|zn<|Dp 5 2 200 5 R<|zt<|?_
 exact ⟨Cr R (RVS.tmp R R),HSub.cons (by rw [hn4];rfl) (HSub.nil)⟩
 refine zn<|A3 (by kernel_rfl) R<|zi<|zr<|XL.step R (Bl 5 R Tryz.underlying55 Yb R6 R R (by omega) (by omega))<|zm R R<|XL.step R (A7 R Aka (.own R) (Src.sl (by omega)) (by unfold maxLen;simp;omega) (by simp;omega))<|zp (Ar R (by conv=>lhs;whnf))<|?_
 refine zn<|zt<|?_
 exact ⟨Cr R (RVS.tmp R R),HSub.cons (R) (HSub.nil)⟩
theorem Ac8 (l:List Gr) (h:l.length*40≤140737488355328):XS Tryz.prog 141 [.sl 5 (l.map Gr.c)] (.own 5) [(5, .row 203 5 ((l).map Gr.c))]:=by
 refine D2 Qy Tryz.func141 R R lb (by kernel_rfl) (by kernel_rfl)<|zr<|za R R<|zn<|zs<|zr<|zm R R<|?_
 refine XL.eqnil R R R Tryz.underlying56 (fun hn4=> ?_) ?_
 refine zn<|A0 (by kernel_rfl) R<|zr<|za R R<|zn<|Dp 5 2 203 5 R<|zt<|?_
 exact ⟨Cr R (RVS.tmp R R),HSub.cons (by rw [hn4];rfl) (HSub.nil)⟩
 refine zn<|A3 (by kernel_rfl) R<|zi<|zr<|XL.step R (Bl 5 R Tryz.underlying56 Ya R5 R R (by omega) (by omega))<|zm R R<|XL.step R (A7 R Aj9 (.own R) (Src.sl (by omega)) (by unfold maxLen;simp;omega) (by simp;omega))<|zp (Ar R (by conv=>lhs;whnf))<|?_
 refine zn<|zt<|?_
 exact ⟨Cr R (RVS.tmp R R),HSub.cons (R) (HSub.nil)⟩
theorem Ac5 (l:List Sy) (h:l.length*24≤140737488355328):XS Tryz.prog 142 [.sl 2 (l.map Sy.c)] (.own 5) [(5, .row 171 2 ((l).map Sy.c))]:=by
 refine D2 Qx Tryz.func142 R R lb (by kernel_rfl) (by kernel_rfl)<|zr<|za R R<|zn<|zs<|zr<|zm R R<|?_
 refine XL.eqnil R R R Tryz.underlying57 (fun hn4=> ?_) ?_
 refine zn<|A0 (by kernel_rfl) R<|zr<|za R R<|zn<|Dp 5 2 171 2 R<|zt<|?_
 exact ⟨Cr R (RVS.tmp R R),HSub.cons (by rw [hn4];rfl) (HSub.nil)⟩
 refine zn<|A3 (by kernel_rfl) R<|zi<|zr<|XL.step R (Bl 5 R Tryz.underlying57 Yc Oj R R (by omega) (by omega))<|zm R R<|XL.step R (A7 R Aj8 (.own R) (Src.sl (by omega)) (by unfold maxLen;simp;omega) (by simp;omega))<|zp (Ar R (by conv=>lhs;whnf))<|?_
 refine zn<|zt<|?_
 exact ⟨Cr R (RVS.tmp R R),HSub.cons (R) (HSub.nil)⟩
theorem Akc (e:Ev) (h:e.room):XS Tryz.prog 111 [.agg (Ev.c e)] (.agg [.d (dI e.site), .d (dI e.num), .d (dI e.kind), .d (dI e.v.log), .d (dI e.v.dots), .own 7501, .own 7502, .d (dI e.art), .d (dI e.orn), .d (dI e.dyn), .own 7503, .d (dI e.stem), .d (dI e.beam)]) [(7501, .row 200 5 ((e.heads).map Hd.c)),(7502, .row 203 5 ((e.graces).map Gr.c)),(7503, .row 171 2 ((e.lyr).map Sy.c))]:=by
 have h1:=h.heads
 have h2:=h.graces
 have h3:=h.lyr
 refine D2 Q1 Tryz.func111 R R lb (by kernel_rfl) (by kernel_rfl)<|zr<|XL.step R (At 1 (l:= [.d (dI e.site), .d (dI e.num), .d (dI e.kind), .d (dI e.v.log), .d (dI e.v.dots), .d (.sl 5 (e.heads.map Hd.c)), .d (.sl 5 (e.graces.map Gr.c)), .d (dI e.art), .d (dI e.orn), .d (dI e.dyn), .d (.sl 2 (e.lyr.map Sy.c)), .d (dI e.stem), .d (dI e.beam)]) R R (by kernel_rfl))<|?_
 refine XL.step R (Ax 2 (l:= [.d (dI 0), .d (dI 0), .d (dI 0), .d (dI 0), .d (dI 0), .d (.v (.slice none 0 0)), .d (.v (.slice none 0 0)), .d (dI 0), .d (dI 0), .d (dI 0), .d (.v (.slice none 0 0)), .d (dI 0), .d (dI 0)]) R Cb (by kernel_rfl))<|zn<|zs<|Cp 10 [7501,7502,7503] (by kernel_rfl) (by kernel_rfl) (by kernel_rfl) (by kernel_rfl) (by decide)<|yp (Aa R R C1)<|?_
 refine yp (Ab R R G6 R R)<|ChK.cons R (CStep.callS R ((Ac6 _ (by assumption)).lab 7501) R (Mv (by kernel_rfl)))<|yp (Aa R R F2)<|yp (Ab R R Nk R R)<|ChK.cons R (CStep.callS R ((Ac8 _ (by assumption)).lab 7502) R (Mv (by kernel_rfl)))<|yp (Aa R R Eh)<|yp (Ab R R Jc R R)<|?_
 refine ChK.cons R (CStep.callS R ((Ac5 _ (by assumption)).lab 7503) R (Mv (by kernel_rfl)))<|yp (Aa R R C1)<|?_
 refine ChK.nil ⟨by kernel_rfl, ?_⟩
 refine XL.step R (Af (l':= [.d (dI e.site), .d (dI e.num), .d (dI e.kind), .d (dI e.v.log), .d (dI e.v.dots), .own 7501, .d (.sl 5 (e.graces.map Gr.c)), .d (dI e.art), .d (dI e.orn), .d (dI e.dyn), .d (.sl 2 (e.lyr.map Sy.c)), .d (dI e.stem), .d (dI e.beam)]) R R R R Nd R lb (by kernel_rfl))<|zp (Aa R R F2)<|?_
 refine XL.step R (Af (l':= [.d (dI e.site), .d (dI e.num), .d (dI e.kind), .d (dI e.v.log), .d (dI e.v.dots), .own 7501, .own 7502, .d (dI e.art), .d (dI e.orn), .d (dI e.dyn), .d (.sl 2 (e.lyr.map Sy.c)), .d (dI e.stem), .d (dI e.beam)]) R R R R Agb R lb (by kernel_rfl))<|zp (Aa R R Eh)<|?_
 refine XL.step R (Af (l':= [.d (dI e.site), .d (dI e.num), .d (dI e.kind), .d (dI e.v.log), .d (dI e.v.dots), .own 7501, .own 7502, .d (dI e.art), .d (dI e.orn), .d (dI e.dyn), .own 7503, .d (dI e.stem), .d (dI e.beam)]) R R R R Aga R lb (by kernel_rfl))<|znr<|zp (Ac (Ad R R B0 R lb))<|?_
 refine XL.step R (Af (l':= [.d (dI e.site), .d (dI e.num), .d (dI e.kind), .d (dI e.v.log), .d (dI e.v.dots), .own 7501, .own 7502, .d (dI e.art), .d (dI e.orn), .d (dI e.dyn), .own 7503, .d (dI e.stem), .d (dI e.beam)]) R R R R C4 R lb (by kernel_rfl))<|zn<|zt<|?_
 exact ⟨Cr R (RVS.eq (RVS.cells (i:=2) R R R B0 lb) R),HSub.cons (R) (HSub.cons (R) (HSub.cons (R) (HSub.nil)))⟩
theorem Xm (e:Ev) (h:e.room):XC Tryz.prog 83 [.agg (Ev.c e)] (fun r=>r= .agg (Ev.c (On e))):=by
 refine Ap Adg Tryz.func83 R R lb<|zr<|XL.step R (At 1 (l:= [.d (dI e.site), .d (dI e.num), .d (dI e.kind), .d (dI e.v.log), .d (dI e.v.dots), .d (.sl 5 (e.heads.map Hd.c)), .d (.sl 5 (e.graces.map Gr.c)), .d (dI e.art), .d (dI e.orn), .d (dI e.dyn), .d (.sl 2 (e.lyr.map Sy.c)), .d (dI e.stem), .d (dI e.beam)]) R R (by kernel_rfl))<|?_
 refine XL.step R (Ax 2 (l:= [.d (dI 0), .d (dI 0), .d (dI 0), .d (dI 0), .d (dI 0), .d (.v (.slice none 0 0)), .d (.v (.slice none 0 0)), .d (dI 0), .d (dI 0), .d (dI 0), .d (.v (.slice none 0 0)), .d (dI 0), .d (dI 0)]) R Cb (by kernel_rfl))<|znr<|zp (Ae (s':= .d (.agg (Ev.c e))) (Ac (Ad R R B0 R lb)) (by kernel_rfl))<|XL.callS R R (Akc _ (by assumption)) R<|?_
 refine XL.freeze (i:=7501) R<|XL.freeze (i:=7502) R<|XL.step R (Af (l':= [.d (dI e.site), .d (dI e.num), .d (dI e.kind), .d (dI e.v.log), .d (dI e.v.dots), .d (.sl 5 (e.heads.map Hd.c)), .d (.sl 5 (e.graces.map Gr.c)), .d (dI e.art), .d (dI e.orn), .d (dI e.dyn), .own 7503, .d (dI e.stem), .d (dI e.beam)]) R R R R C4 R lb (by kernel_rfl))<|zn<|zs<|?_
 refine Aeh 22 24 25 (fun s=>s) (mkH [(1, .box [.d (dI e.site), .d (dI e.num), .d (dI e.kind), .d (dI e.v.log), .d (dI e.v.dots), .d (.sl 5 ((e.heads.take 5).map Hd.c)), .d (.sl 5 (e.graces.map Gr.c)), .d (dI e.art), .d (dI e.orn), .d (dI e.dyn), .own 7503, .d (dI e.stem), .d (dI e.beam)]),(2, .box [.d (dI 0), .d (dI 0), .d (dI 0), .d (dI 0), .d (dI 0), .d (.v (.slice none 0 0)), .d (.v (.slice none 0 0)), .d (dI 0), .d (dI 0), .d (dI 0), .d (.v (.slice none 0 0)), .d (dI 0), .d (dI 0)]),(7503, .row 171 2 ((e.lyr).map Sy.c))]) (mkH [(1, .box [.d (dI e.site), .d (dI e.num), .d (dI e.kind), .d (dI e.v.log), .d (dI e.v.dots), .d (.sl 5 ((e.heads.take 5).map Hd.c)), .d (.sl 5 ((e.graces.take 4).map Gr.c)), .d (dI e.art), .d (dI e.orn), .d (dI e.dyn), .own 7503, .d (dI e.stem), .d (dI e.beam)]),(2, .box [.d (dI 0), .d (dI 0), .d (dI 0), .d (dI 0), .d (dI 0), .d (.v (.slice none 0 0)), .d (.v (.slice none 0 0)), .d (dI 0), .d (dI 0), .d (dI 0), .d (.v (.slice none 0 0)), .d (dI 0), .d (dI 0)]),(7503, .row 171 2 ((e.lyr).map Sy.c))]) (by kernel_rfl) (by kernel_rfl) (by kernel_rfl) (by kernel_rfl)<|?_
 refine ChFK.bf R (CStep.pure (Aa R R C1)) (by conv=>lhs;whnf)<|?_
 refine ChFK.bf R (CStep.pure (Ab R R G6 R R)) (by conv=>lhs;whnf)<|?_
 refine ChFK.bf R (CStep.pure (Aa R R C1)) (by conv=>lhs;whnf)<|?_
 refine ChFK.bf R (CStep.pure (Ab R R G6 R R)) (by conv=>lhs;whnf)<|?_
 refine ChFK.bf R (CStep.pure (H6 R R Tryz.underlying55)) (by conv=>lhs;whnf)<|?_
 refine ChFK.bf R (CStep.pure (Ft R R R)) (by conv=>lhs;whnf)<|?_
 refine ChFK.bf R (CStep.pure (K5 R R R Rl)) (by conv=>lhs;whnf)<|?_
 refine ChFK.bf R (CStep.pure (Aa R R F2)) (by conv=>lhs;whnf)<|?_
 refine ChFK.bf R (CStep.pure (Ab R R Nk R R)) (by conv=>lhs;whnf)<|?_
 refine ChFK.bf R (CStep.pure (Aa R R F2)) (by conv=>lhs;whnf)<|?_
 refine ChFK.bf R (CStep.pure (Ab R R Nk R R)) (by conv=>lhs;whnf)<|?_
 refine ChFK.fr R R (CStep.pure (H6 R R Tryz.underlying56)) (CStep.pure (H6 R R Tryz.underlying56)) (by exact rfl)<|ChFK.fr R R (CStep.pure (Ft R R R)) (CStep.pure (Ft R R R)) (by exact rfl)<|ChFK.fr R R (CStep.pure (K5 R R R Uw)) (CStep.pure (K5 R R R Uw)) (by exact rfl)<|ChFK.bf R (CStep.pure (Aa R R Eh)) (by conv=>lhs;whnf)<|?_
 refine ChFK.bf R (CStep.pure (Ab R R Jc R R)) (by conv=>lhs;whnf)<|?_
 refine ChFK.bf R (CStep.pure (Aa R R Eh)) (by conv=>lhs;whnf)<|?_
 refine ChFK.bf R (CStep.pure (Ab R R Jc R R)) (by conv=>lhs;whnf)<|?_
 refine ChFK.ff R R (CStep.pure (B4 R R R Tryz.underlying57)) (CStep.pure (B4 R R R Tryz.underlying57)) (CStep.pure (B4 R R R Tryz.underlying57)) (by exact rfl)<|ChFK.ff R R (CStep.pure (Ft R R R)) (CStep.pure (Ft R R R)) (CStep.pure (Ft R R R)) (by exact rfl)<|?_
 refine ChFK.ff R R (CStep.pure (K6 R R R Kz Bd.no (Bd.ati R (show _=((min e.lyr.length 5:Nat):Int) by omega)) (Nat.zero_le _) (by rw [List.length_map];omega))) (CStep.pure (K6 rfl rfl rfl Kz Bd.no (Bd.ati rfl (show _=((min e.lyr.length 5:Nat):Int) by omega)) (Nat.zero_le _) (by rw [List.length_map];omega))) (CStep.pure (K6 rfl rfl rfl Kz Bd.no (Bd.ati rfl (show _=((min e.lyr.length 5:Nat):Int) by omega)) (Nat.zero_le _) (by rw [List.length_map];omega))) (by exact rfl)<|?_
 refine ChFK.bf R (CStep.pure (Aa R R C1)) (by conv=>lhs;whnf)<|?_
 refine ChFK.mus R R (Zv (l':= [.d (dI e.site), .d (dI e.num), .d (dI e.kind), .d (dI e.v.log), .d (dI e.v.dots), .d (.sl 5 ((e.heads.take 5).map Hd.c)), .d (.sl 5 (e.graces.map Gr.c)), .d (dI e.art), .d (dI e.orn), .d (dI e.dyn), .own 7503, .d (dI e.stem), .d (dI e.beam)]) R R R R Nd R lb (by kernel_rfl) (gz ⟨R,R,R,trivial⟩))<|ChFK.af R (CStep.pure (Aa R R F2))<|?_
 refine ChFK.st R (Zv (l':= [.d (dI e.site), .d (dI e.num), .d (dI e.kind), .d (dI e.v.log), .d (dI e.v.dots), .d (.sl 5 ((e.heads.take 5).map Hd.c)), .d (.sl 5 ((e.graces.take 4).map Gr.c)), .d (dI e.art), .d (dI e.orn), .d (dI e.dyn), .own 7503, .d (dI e.stem), .d (dI e.beam)]) R R R R Agb R lb (by kernel_rfl) (gz ⟨R,R,R,trivial⟩))<|?_
 refine ChFK.nil ⟨⟨by kernel_rfl,by kernel_rfl,by kernel_rfl⟩, ?_⟩
 refine zp (Aa R R Eh)<|XL.step R (Yf (l':= [.d (dI e.site), .d (dI e.num), .d (dI e.kind), .d (dI e.v.log), .d (dI e.v.dots), .d (.sl 5 ((e.heads.take 5).map Hd.c)), .d (.sl 5 ((e.graces.take 4).map Gr.c)), .d (dI e.art), .d (dI e.orn), .d (dI e.dyn), .sub 7503 0 (min e.lyr.length 5), .d (dI e.stem), .d (dI e.beam)]) R R R R Aga lb (by kernel_rfl))<|zn<|zs<|zs<|?_
 refine Aht 7503 1 10 (min e.lyr.length 5) R R R (by decide) (r':=(e.lyr.take 5).map Sy.c) (by rw [←List.map_take,Nat.min_comm, ←List.take_take,List.take_length]) R<|?_
 have hsl:(e.lyr.take 5).length≤5:=by rw [List.length_take];omega
 refine Ag (by kernel_rfl)<|za R R<|zn<|Ah<|?_
 refine A4 (α:=Nat) (fun k=>k≤(e.lyr.take 5).length) (fun k=>mkF [(1, .ptr 1 0 0),(2, .ptr 2 0 0),(3, .d (dI k))]) (fun k=>mkH [(1, .box [.d (dI e.site), .d (dI e.num), .d (dI e.kind), .d (dI e.v.log), .d (dI e.v.dots), .d (.sl 5 ((e.heads.take 5).map Hd.c)), .d (.sl 5 ((e.graces.take 4).map Gr.c)), .d (dI e.art), .d (dI e.orn), .d (dI e.dyn), .own 7503, .d (dI e.stem), .d (dI e.beam)]),(2, .box [.d (dI 0), .d (dI 0), .d (dI 0), .d (dI 0), .d (dI 0), .d (.v (.slice none 0 0)), .d (.v (.slice none 0 0)), .d (dI 0), .d (dI 0), .d (dI 0), .d (.v (.slice none 0 0)), .d (dI 0), .d (dI 0)]),(7503, .row 171 2 ((Hc Om (e.lyr.take 5) k).map Sy.c))]) (fun k=>(e.lyr.take 5).length - k) (0) (Nat.zero_le _) ?_ ?_ ?_
 exact fz ⟨sr,sr,sr,trivial⟩
 exact gz ⟨R,R,Jh (O2 _ _),trivial⟩
 intro k hk0
 refine zs<|zr<|zm R R<|zp (Aa R R Eh)<|zp (Ab R R Jc R R)<|zp (B4 R R R Tryz.underlying57)<|zp (Au R R R)<|zn<|?_
 refine zd R (fun c34=> ?_) (fun c34=> ?_)
 have hml:=No Om (e.lyr.take 5) k
 have hkl:k<(e.lyr.take 5).length:=by omega
 obtain ⟨x,hx⟩:=Az hkl
 have hg:=Qa (f:=Om) hx
 refine zi<|zs<|Ah<|Cp 18 [] (by kernel_rfl) (by kernel_rfl) (by kernel_rfl) (by kernel_rfl) (by decide)<|yp (Aa R R Eh)<|yp (Ab R R Jc R R)<|ym R R<|yp (Aa R R Eh)<|yp (Ab R R Jc R R)<|ym R R<|yp (Ct R R R (R) R Kz (by omega))<|yp (Aa R R G2)<|yp (It R R Km R (Dc hg) R)<|yp (Aa R R Eh)<|?_
 refine yp (Ab R R Jc R R)<|ym R R<|yp (Ct R R R (R) R Kz (by omega))<|yp (Aa R R G2)<|yp (It R R Km R (Dc hg) R)<|yp (K7 R R Tryz.underlying9)<|yp (Ft R R R)<|yp (Vi R R R Tryz.underlying9)<|?_
 refine ChK.nil ⟨by kernel_rfl, ?_⟩
 refine zp (Ct R R R (R) R Kz (by omega))<|zp (Aa R R G2)<|XL.step R (E9 R R R (Dc hg) R R Ak7 R lb)<|zn<|Ag (by kernel_rfl)<|zm R R<|zp (Al R R R (by omega) (by omega))<|za R R<|zn<|?_
 exact An (k+1) (by omega) (by omega) (fz ⟨sr,sr,sr,trivial⟩) (gz ⟨R,R,P2 (a:=Om x) R (P9 hx),trivial⟩)
 have hml:=No Om (e.lyr.take 5) k
 have he:=Qb (f:=Om) (l:=(e.lyr.take 5)) (k:=k) (by omega)
 refine Av<|zr<|zp (Ac (Ad R R B0 R lb))<|XL.step R (Af (l':= [.d (dI e.site), .d (dI e.num), .d (dI e.kind), .d (dI e.v.log), .d (dI e.v.dots), .d (.sl 5 ((e.heads.take 5).map Hd.c)), .d (.sl 5 ((e.graces.take 4).map Gr.c)), .d (dI e.art), .d (dI e.orn), .d (dI e.dyn), .own 7503, .d (dI e.stem), .d (dI e.beam)]) R R R R C4 R lb (by kernel_rfl))<|zn<|zt<|?_
 refine B8 (i:=7503) R<|?_
 exact Kn R (RV.cells R R R B0 lb R) (by rw [he];rfl)
end Go.Proofs.YtaafemnkamfgnaaGreat
namespace Go.Proofs.YtaafemnkamfgnaaGreat
open Go.RowKit
def Vo.room (v:Vo):Prop:=∀e∈v.evs,e.room
def Lf (v:Vo):Vo:=⟨(v.evs.take 12).map On,v.tups.take 6⟩
theorem Agg {l:List Ev} {k:Nat} {x:Ev} (h:l[k]? =some x):(l.take (k+1)).map On=(l.take k).map On++ [On x]:=by rw [Bp h,List.map_append];rfl
theorem Kl {α:Type} {l:List α} {k m:Nat} (h:k≤m) (h2:¬k<m∨¬k<l.length):l.take k=l.take m:=by
 rcases h2 with h2|h2
 ·rw [show k=m by omega]
 ·rw [List.take_of_length_le (by omega),List.take_of_length_le (by omega)]
theorem Alm (e:Ev):(On e).fit:=⟨by show (e.heads.take 5).length≤1000;rw [List.length_take];omega,by show (e.graces.take 4).length≤1000;rw [List.length_take];omega,by show ((e.lyr.take 5).map Om).length≤1000;rw [List.length_map,List.length_take];omega⟩
theorem Ali (v:Vo):(Lf v).fit:=⟨by show ((v.evs.take 12).map On).length≤1000;rw [List.length_map,List.length_take];omega,by show (v.tups.take 6).length≤1000;rw [List.length_take];omega,fun e he=>by obtain ⟨x,_,rfl⟩:=List.mem_map.1 he;exact Alm x⟩
theorem Alj {v:Vo} (h:Evs v.evs):Evs (Lf v).evs:=fun e he=>by obtain ⟨x,hx,rfl⟩:=List.mem_map.1 he;exact h x (List.mem_of_mem_take hx)
theorem Xl (v:Vo) (h:v.room):XS Tryz.prog 39 [.agg (Vo.c v)] (.agg [.own 7201, .own 7202]) [(7201, .row 59 13 (((Lf v).evs).map Ev.c)),(7202, .row 157 4 (((Lf v).tups).map Tp.c))]:=by
 refine D2 Ad2 Tryz.func39 R R lb (by kernel_rfl) (by kernel_rfl)<|zr<|XL.step R (At 1 (l:= [.d (.sl 13 (v.evs.map Ev.c)), .d (.sl 4 (v.tups.map Tp.c))]) R R (by kernel_rfl))<|XL.step R (Ax 2 (l:= [.d (.v (.slice none 0 0)), .d (.v (.slice none 0 0))]) R Bh (by kernel_rfl))<|znr<|?_
 refine XL.step R (Ax 3 (l:= [.d (.v (.slice none 0 0)), .d (.v (.slice none 0 0))]) R Bh (by kernel_rfl))<|zn<|zs<|zr<|za R R<|zn<|Ah<|Eu 7201 3 0 59 13 (l':= [.own 7201, .d (.v (.slice none 0 0))]) R R (by decide) (by kernel_rfl)<|?_
 refine A4 (α:=Nat) (fun k=>k≤v.evs.length∧k≤12) (fun k=>mkF [(1, .ptr 1 0 0),(2, .ptr 2 0 0),(3, .ptr 3 0 0),(4, .d (dI k))]) (fun k=>mkH [(1, .box ((Vo.c v).map S.d)),(2, .box [.d (.v (.slice none 0 0)), .d (.v (.slice none 0 0))]),(3, .box [.own 7201, .d (.v (.slice none 0 0))]),(7201, .row 59 13 (((v.evs.take k).map On).map Ev.c))]) (fun k=>v.evs.length - k) (0) (⟨Nat.zero_le _,Nat.zero_le _⟩) ?_ ?_ ?_
 exact fz ⟨sr,sr,sr,sr,trivial⟩
 exact gz ⟨R,R,R,R,trivial⟩
 intro k hk0
 obtain ⟨hk,hk12⟩:=hk0
 refine zs<|zr<|zm R R<|zp (Aa R R Bv)<|zp (Ab R R C9 R R)<|XL.len R R R Tryz.underlying79 fun hl8=>zp (Au R R R)<|zm R R<|?_
 refine XL.dec 10 R (fun g10=> ?_) (fun g10=> ?_)
 refine zm R R<|zp (Au R R R)<|zq R R R<|zn<|?_
 refine zd R (fun c13=> ?_) (fun c13=> ?_)
 have hkl:k<v.evs.length:=by omega
 obtain ⟨x,hx⟩:=Az hkl
 have hr:=h x (List.mem_of_getElem? hx)
 have htl:((v.evs.take k).map On).length=k:=by rw [List.length_map,List.length_take];omega
 refine zi<|zs<|Ah<|Cp 9 [] (by kernel_rfl) (by kernel_rfl) (by kernel_rfl) (by kernel_rfl) (by decide)<|yp (Aa R R Bv)<|yp (Ab R R C9 R R)<|yp (Aa R R Bv)<|yp (Ab R R C9 R R)<|ym R R<|yp (Aj R R R Hv (hx))<|yp (Ae (s':= .d (.agg (Ev.c x))) (Bf R R B0 lb) (by kernel_rfl))<|?_
 refine ChK.cons R (CStep.call R (Xm _ (by assumption)) R)<|ChK.cons R (CStep.slice R Tryz.underlying79 C4 Cb R R (by omega) (by omega))<|?_
 refine ChK.nil ⟨by kernel_rfl, ?_⟩
 refine XL.step R (A7 R Gh (.own R) (Src.sl (by omega)) (by unfold maxLen;simp;omega) (by simp;omega))<|zp (Aa R R Bv)<|XL.step R (Af (l':= [.own 7201, .d (.v (.slice none 0 0))]) R R R R Q7 R lb (by kernel_rfl))<|zn<|Ag (by kernel_rfl)<|zm R R<|zp (Al R R R (by omega) (by omega))<|za R R<|zn<|?_
 exact An (k+1) (⟨by omega,by omega⟩) (by omega) (fz ⟨sr,sr,sr,sr,trivial⟩) (gz ⟨rfl,rfl,rfl,I6 rfl (Agg hx),trivial⟩)
 refine Av<|zs<|Cp 9 [] (by kernel_rfl) (by kernel_rfl) (by kernel_rfl) (by kernel_rfl) (by decide)<|yp (Aa R R B5)<|yp (Ab R R B6 R R)<|yp (Aa R R B5)<|yp (Ab R R B6 R R)<|yp (Aa R R B5)<|yp (Ab R R B6 R R)<|yp (H6 R R Tryz.underlying80)<|yp (Ft R R R)<|yp (K5 R R R E8)<|?_
 refine ChK.nil ⟨by kernel_rfl, ?_⟩
 refine XL.step R (A7 R Fq (.nil 7202 _ _) (Src.sl (by omega)) (by unfold maxLen;simp;omega) (by simp;omega))<|zp (Aa R R B5)<|XL.step R (Af (l':= [.own 7201, .own 7202]) R R R R F5 R lb (by kernel_rfl))<|znr<|zp (Ac (Ad R R Aw R lb))<|XL.step R (Af (l':= [.own 7201, .own 7202]) R R R R Bq R lb (by kernel_rfl))<|zn<|zt<|?_
 exact ⟨Cr R (RVS.eq (RVS.cells (i:=2) R R R Aw lb) R),HSub.cons (by rw [Kl (l:=v.evs) hk12 (by omega)];rfl) (HSub.cons (R) (HSub.nil))⟩
 refine zk 2 R<|zq R R R<|zn<|A3 (by kernel_rfl) R<|Av<|zs<|Cp 9 [] (by kernel_rfl) (by kernel_rfl) (by kernel_rfl) (by kernel_rfl) (by decide)<|yp (Aa R R B5)<|yp (Ab R R B6 R R)<|yp (Aa R R B5)<|yp (Ab R R B6 R R)<|yp (Aa R R B5)<|yp (Ab R R B6 R R)<|yp (H6 R R Tryz.underlying80)<|?_
 refine yp (Ft R R R)<|yp (K5 R R R E8)<|?_
 refine ChK.nil ⟨by kernel_rfl, ?_⟩
 refine XL.step R (A7 R Fq (.nil 7202 _ _) (Src.sl (by omega)) (by unfold maxLen;simp;omega) (by simp;omega))<|zp (Aa R R B5)<|XL.step R (Af (l':= [.own 7201, .own 7202]) R R R R F5 R lb (by kernel_rfl))<|znr<|zp (Ac (Ad R R Aw R lb))<|XL.step R (Af (l':= [.own 7201, .own 7202]) R R R R Bq R lb (by kernel_rfl))<|zn<|zt<|?_
 exact ⟨Cr R (RVS.eq (RVS.cells (i:=2) R R R Aw lb) R),HSub.cons (by rw [Kl (l:=v.evs) hk12 (by omega)];rfl) (HSub.cons (R) (HSub.nil))⟩
def Ms.room (m:Ms):Prop:=∀c∈m.cells,∀v∈c.voices,v.room
def Mk (v:Vo):List T:=(Lf v).t
def Sd (c:Ce):Ce:=⟨c.clefs.take 8,(c.voices.take 3).map Lf⟩
def Lg (c:Ce):List T:=(Sd c).t
def shH (h:Mh):Mh:={h with reh:=h.reh.take 30}
def C5 (m:Ms):Ms:=⟨shH m.h,m.tempi.take 8,(m.cells.take 4).map Sd⟩
theorem L4 (ls:List Nat) (l:List Vo):T.inLL ls (l.map Mk)=true:=T.inLL_map (fun v=>Vo.t_in ls (Lf v)) l
theorem Js (ls:List Nat) (l:List Ce):T.inLL ls (l.map Lg)=true:=T.inLL_map (fun v=>Ce.t_in ls (Sd v)) l
theorem Yk (l:List Vo):l.map Mk=(l.map Lf).map Vo.t:=by rw [List.map_map];rfl
theorem Yl (l:List Ce):l.map Lg=(l.map Sd).map Ce.t:=by rw [List.map_map];rfl
theorem Alk (m : Ms) : (C5 m).fit := ⟨by show (m.tempi.take 8).length ≤ 1000; rw [List.length_take]; omega, by show ((m.cells.take 4).map Sd).length ≤ 1000; rw [List.length_map, List.length_take]; omega, fun c hc => by
 obtain ⟨x,_,rfl⟩:=List.mem_map.1 hc
 exact ⟨by show (x.clefs.take 8).length ≤ 1000; rw [List.length_take]; omega, by show ((x.voices.take 3).map Lf).length ≤ 1000; rw [List.length_map, List.length_take]; omega, fun v hv => by obtain ⟨y, _, rfl⟩ := List.mem_map.1 hv; exact Ali y⟩⟩
theorem All {m:Ms} (h:m.evs):(C5 m).evs:=fun c hc v hv=>by
 obtain ⟨x,hx,rfl⟩:=List.mem_map.1 hc
 obtain ⟨y,hy,rfl⟩:=List.mem_map.1 hv
 exact Alj (h x (List.mem_of_mem_take hx) y (List.mem_of_mem_take hy))
theorem Alf (m:Ms) (h:m.room):XS Tryz.prog 14 [.agg (Ms.c m)] (.agg [.d (dI (shH m.h).site), .d (dI (shH m.h).num), .d (dI (shH m.h).m.count), .d (dI (shH m.h).m.unit), .d (dI (shH m.h).m.g0), .d (dI (shH m.h).m.g1), .d (dI (shH m.h).m.g2), .d (dI (shH m.h).m.g3), .d (dI (shH m.h).m.g4), .d (dI (shH m.h).m.g5), .d (dI (shH m.h).len), .d (dI (shH m.h).fifths), .d (dB (shH m.h).start), .d (dI (shH m.h).fin), .d (dI (shH m.h).ends), .d (dI (shH m.h).jump), .d (dI (shH m.h).labels), .d (dI (shH m.h).swing), .d (dI (shH m.h).brk), .d (.v (.string ⟨(shH m.h).reh.toArray⟩)), .own 7401, .own 7402]) [(7401, .row 119 3 (((C5 m).tempi).map Tm.c)),(7402, .tree 78 2 [] ((C5 m).cells.map Ce.t))]:=by
 refine D2 Aed Tryz.func14 R R lb (by kernel_rfl) (by kernel_rfl)<|zr<|?_
 refine XL.step R (At 1 (l:= [.d (dI m.h.site), .d (dI m.h.num), .d (dI m.h.m.count), .d (dI m.h.m.unit), .d (dI m.h.m.g0), .d (dI m.h.m.g1), .d (dI m.h.m.g2), .d (dI m.h.m.g3), .d (dI m.h.m.g4), .d (dI m.h.m.g5), .d (dI m.h.len), .d (dI m.h.fifths), .d (dB m.h.start), .d (dI m.h.fin), .d (dI m.h.ends), .d (dI m.h.jump), .d (dI m.h.labels), .d (dI m.h.swing), .d (dI m.h.brk), .d (.v (.string ⟨m.h.reh.toArray⟩)), .d (.sl 3 (m.tempi.map Tm.c)), .d (.sl 2 (m.cells.map Ce.c))]) R R (by kernel_rfl))<|?_
 refine XL.step R (Ax 2 (l:= [.d (dI 0), .d (dI 0), .d (dI 0), .d (dI 0), .d (dI 0), .d (dI 0), .d (dI 0), .d (dI 0), .d (dI 0), .d (dI 0), .d (dI 0), .d (dI 0), .d (dB false), .d (dI 0), .d (dI 0), .d (dI 0), .d (dI 0), .d (dI 0), .d (dI 0), .d (.v (.string ⟨#[]⟩)), .d (.v (.slice none 0 0)), .d (.v (.slice none 0 0))]) R F9 (by kernel_rfl))<|znr<|zp (Aa R R Db)<|?_
 refine zp (Ab R R Ht R R)<|za R R<|znr<|zp (Aa R R Db)<|?_
 refine XL.step R (Af (l':= [.d (dI m.h.site), .d (dI m.h.num), .d (dI m.h.m.count), .d (dI m.h.m.unit), .d (dI m.h.m.g0), .d (dI m.h.m.g1), .d (dI m.h.m.g2), .d (dI m.h.m.g3), .d (dI m.h.m.g4), .d (dI m.h.m.g5), .d (dI m.h.len), .d (dI m.h.fifths), .d (dB m.h.start), .d (dI m.h.fin), .d (dI m.h.ends), .d (dI m.h.jump), .d (dI m.h.labels), .d (dI m.h.swing), .d (dI m.h.brk), .d (.v (.string ⟨m.h.reh.toArray⟩)), .d (.sl 3 (m.tempi.map Tm.c)),_]) R R R R Ty R lb R)<|?_
 refine zn<|zs<|zr<|za R R<|zn<|Ah<|?_
 refine Eu 7402 1 21 78 2 (l':= [.d (dI m.h.site), .d (dI m.h.num), .d (dI m.h.m.count), .d (dI m.h.m.unit), .d (dI m.h.m.g0), .d (dI m.h.m.g1), .d (dI m.h.m.g2), .d (dI m.h.m.g3), .d (dI m.h.m.g4), .d (dI m.h.m.g5), .d (dI m.h.len), .d (dI m.h.fifths), .d (dB m.h.start), .d (dI m.h.fin), .d (dI m.h.ends), .d (dI m.h.jump), .d (dI m.h.labels), .d (dI m.h.swing), .d (dI m.h.brk), .d (.v (.string ⟨m.h.reh.toArray⟩)), .d (.sl 3 (m.tempi.map Tm.c)), .own 7402]) R R (by decide) (by kernel_rfl)<|?_
 refine To (i:=7402) (l':= []) R R<|?_
 refine A4 (α:=Nat) (fun k=>k≤m.cells.length∧k≤4) (fun k=>mkF [(1, .ptr 1 0 0),(2, .ptr 2 0 0),(3, .d (.sl 2 (m.cells.map Ce.c))),(4, .d (dI k))]) (fun k=>mkH [(1, .box [.d (dI m.h.site), .d (dI m.h.num), .d (dI m.h.m.count), .d (dI m.h.m.unit), .d (dI m.h.m.g0), .d (dI m.h.m.g1), .d (dI m.h.m.g2), .d (dI m.h.m.g3), .d (dI m.h.m.g4), .d (dI m.h.m.g5), .d (dI m.h.len), .d (dI m.h.fifths), .d (dB m.h.start), .d (dI m.h.fin), .d (dI m.h.ends), .d (dI m.h.jump), .d (dI m.h.labels), .d (dI m.h.swing), .d (dI m.h.brk), .d (.v (.string ⟨m.h.reh.toArray⟩)), .d (.sl 3 (m.tempi.map Tm.c)), .own 7402]),(2, .box [.d (dI 0), .d (dI 0), .d (dI 0), .d (dI 0), .d (dI 0), .d (dI 0), .d (dI 0), .d (dI 0), .d (dI 0), .d (dI 0), .d (dI 0), .d (dI 0), .d (dB false), .d (dI 0), .d (dI 0), .d (dI 0), .d (dI 0), .d (dI 0), .d (dI 0), .d (.v (.string ⟨#[]⟩)), .d (.v (.slice none 0 0)), .d (.v (.slice none 0 0))]),(7402, .tree 78 2 [] ((m.cells.take k).map Lg))]) (fun k=>m.cells.length - k) (0) (⟨Nat.zero_le _,Nat.zero_le _⟩) ?_ ?_ ?_
 exact fz ⟨sr,sr,sr,sr,trivial⟩
 exact gz ⟨R,R,R,trivial⟩
 intro k hk0
 obtain ⟨hk,hk4⟩:=hk0
 refine zs<|zr<|zm R R<|zm R R<|XL.len R R R Tryz.underlying28 fun hl12=>zp (Au R R R)<|zm R R<|?_
 refine XL.dec 14 R (fun g14=> ?_) (fun g14=> ?_)
 refine zm R R<|zp (Au R R R)<|zq R R R<|zn<|?_
 refine zd R (fun c17=> ?_) (fun c17=> ?_)
 have hkl:k<m.cells.length:=by omega
 obtain ⟨x,hx⟩:=Az hkl
 have hr:=h x (List.mem_of_getElem? hx)
 have htl:(m.cells.take k).length=k:=by rw [List.length_take];omega
 refine zi<|zs<|Ah<|zr<|XL.step R (Ax 5 (l:= [.d (.v (.slice none 0 0)), .d (.v (.slice none 0 0))]) R Gv (by kernel_rfl))<|zn<|zs<|Cp 15 [] (by kernel_rfl) (by kernel_rfl) (by kernel_rfl) (by kernel_rfl) (by decide)<|yp (Aa R R Ih)<|yp (Ab R R T3 R R)<|ym R R<|ym R R<|yp (Aj R R R Kg (hx))<|yp (Bc R R Ih)<|?_
 refine yp (Am R R T3)<|ym R R<|ym R R<|yp (Aj R R R Kg (hx))<|yp (Bc R R Ih)<|yp (Am R R T3)<|yp (H6 R R Tryz.underlying75)<|yp (Ft R R R)<|yp (K5 R R R Rk)<|?_
 refine ChK.nil ⟨by kernel_rfl, ?_⟩
 refine XL.step R (A7 R Aj7 (.nil 7301 _ _) (Src.sl (by omega)) (by unfold maxLen;simp;omega) (by simp;omega))<|XL.rowq (i:=7301) (l':=(x.clefs.take 8).map Cf.c) R (R)<|zp (Aa R R Ih)<|XL.step R (Af (l':= [.own 7301, .d (.v (.slice none 0 0))]) R R R R Af9 R lb (by kernel_rfl))<|zn<|zs<|zr<|za R R<|zn<|Ah<|?_
 refine Eu 7302 5 1 82 2 (l':= [.own 7301, .own 7302]) R R (by decide) (by kernel_rfl)<|To (i:=7302) (l':= []) R R<|?_
 refine A4 (α:=Nat) (fun j=>j≤x.voices.length∧j≤3) (fun j=>mkF [(1, .ptr 1 0 0),(2, .ptr 2 0 0),(3, .d (.sl 2 (m.cells.map Ce.c))),(4, .d (dI k)),(5, .ptr 5 0 0),(6, .d (dI j))]) (fun j=>mkH [(1, .box [.d (dI m.h.site), .d (dI m.h.num), .d (dI m.h.m.count), .d (dI m.h.m.unit), .d (dI m.h.m.g0), .d (dI m.h.m.g1), .d (dI m.h.m.g2), .d (dI m.h.m.g3), .d (dI m.h.m.g4), .d (dI m.h.m.g5), .d (dI m.h.len), .d (dI m.h.fifths), .d (dB m.h.start), .d (dI m.h.fin), .d (dI m.h.ends), .d (dI m.h.jump), .d (dI m.h.labels), .d (dI m.h.swing), .d (dI m.h.brk), .d (.v (.string ⟨m.h.reh.toArray⟩)), .d (.sl 3 (m.tempi.map Tm.c)), .own 7402]),(2, .box [.d (dI 0), .d (dI 0), .d (dI 0), .d (dI 0), .d (dI 0), .d (dI 0), .d (dI 0), .d (dI 0), .d (dI 0), .d (dI 0), .d (dI 0), .d (dI 0), .d (dB false), .d (dI 0), .d (dI 0), .d (dI 0), .d (dI 0), .d (dI 0), .d (dI 0), .d (.v (.string ⟨#[]⟩)), .d (.v (.slice none 0 0)), .d (.v (.slice none 0 0))]),(5, .box [.own 7301, .own 7302]),(7301, .row 84 2 ((x.clefs.take 8).map Cf.c)),(7302, .tree 82 2 [] ((x.voices.take j).map Mk)),(7402, .tree 78 2 [] ((m.cells.take k).map Lg))]) (fun j=>x.voices.length - j) (0) (⟨Nat.zero_le _,Nat.zero_le _⟩) ?_ ?_ ?_
 exact fz ⟨sr,sr,sr,sr,sr,sr,trivial⟩
 exact gz ⟨R,R,R,R,R,R,trivial⟩
 intro j hk2
 obtain ⟨hj,hj3⟩:=hk2
 refine zs<|zr<|zm R R<|zm R R<|zm R R<|zp (Aj R R R Kg (hx))<|zp (Bc R R Ea)<|zp (Am R R Hs)<|XL.len R R R Tryz.underlying76 fun hl43=>zp (Au R R R)<|zm R R<|?_
 refine XL.dec 45 R (fun g45=> ?_) (fun g45=> ?_)
 refine zm R R<|zp (Au R R R)<|zq R R R<|zn<|?_
 refine zd R (fun c48=> ?_) (fun c48=> ?_)
 have hjl:j<x.voices.length:=by omega
 obtain ⟨y,hy⟩:=Az hjl
 have hq:=hr y (List.mem_of_getElem? hy)
 have hul:(x.voices.take j).length=j:=by rw [List.length_take];omega
 refine zi<|zs<|Ah<|Cp 12 [7201,7202,62] (by kernel_rfl) (by kernel_rfl) (by kernel_rfl) (by kernel_rfl) (by decide)<|yp (Aa R R Ea)<|yp (Ab R R Hs R R)<|ym R R<|ym R R<|yp (Aj R R R Kg (hx))<|yp (Bc R R Ea)<|yp (Am R R Hs)<|ym R R<|yp (Aj R R R O8 (hy))<|?_
 refine yp (Ae (s':= .d (.agg (Vo.c y))) (Bf R R Aw lb) (by kernel_rfl))<|ChK.cons R (CStep.callS R (Xl _ (by assumption)) R (Mv (by kernel_rfl)))<|ChK.cons R (CStep.slice1 62 (cs:= [.own 7201, .own 7202]) R Tryz.underlying76 Bq Bh R R (by decide) (by decide) R)<|?_
 refine ChK.nil ⟨by kernel_rfl, ?_⟩
 refine XL.step R (Gx [7201,7202] (lr:=((x.voices.take (j+1)).map Mk).set j [.own 7201, .own 7202]) R Aj6 (.own R) (SrcT.ownS R) (by unfold maxLen;simp;omega) (by simp;omega) (Oi hy _) (Ee (L4 [] _) (Gn (R) (R)) _) R)<|?_
 refine XL.closeR (i:=7302) (j:=7201) (k:=j) (m:=0) (l':=((x.voices.take (j+1)).map Mk).set j [.row 59 13 ((((Lf y).evs).map Ev.c).map (·.map T.d)), .own 7202]) [7202] R R R (Di (D4 hy)) R (List.set_set ..) (Ee (L4 [] _) (Gn (E4 (T.inLL_d _ _)) (R)) _) R<|?_
 refine XL.closeR (i:=7302) (j:=7202) (k:=j) (m:=1) (l':=((x.voices.take (j+1)).map Mk).set j [.row 59 13 ((((Lf y).evs).map Ev.c).map (·.map T.d)), .row 157 4 ((((Lf y).tups).map Tp.c).map (·.map T.d))]) [] R R R (Di (D4 hy)) R (List.set_set ..) (Ee (L4 [] _) (Gn (E4 (T.inLL_d _ _)) (E4 (T.inLL_d _ _))) _) R<|?_
 refine XL.rowqT (i:=7302) (l':=(x.voices.take (j+1)).map Mk) [] R (set_same (D4 hy)) (L4 [] _)<|zp (Aa R R Ea)<|XL.step R (Af (l':= [.own 7301, .own 7302]) R R R R Anm R lb (by kernel_rfl))<|zn<|Ag (by kernel_rfl)<|zm R R<|zp (Al R R R (by omega) (by omega))<|za R R<|zn<|?_
 exact An (j+1) (⟨by omega,by omega⟩) (by omega) (fz ⟨sr,sr,sr,sr,sr,sr,trivial⟩) (gz ⟨rfl,rfl,rfl,rfl,rfl,rfl,trivial⟩)
 refine Av<|Ag (by kernel_rfl)<|zp (Aa R R Db)<|zp (Ab R R Ht R R)<|zp (Ac (Ad R R M6 R lb))<|XL.step R (V7 68 (cs:= [.own 7301, .own 7302]) R Tryz.underlying28 Nc Gv R R (by decide) (by decide))<|?_
 refine XL.step R (Gx [7301,7302] (lr:=((m.cells.take (k+1)).map Lg).set k [.own 7301, .own 7302]) R Z2 (.own R) (SrcT.ownS R) (by unfold maxLen;simp;omega) (by simp;omega) (Oi hx _) (Ee (Js [] _) (Gn (R) (R)) _) R)<|?_
 have hvt:(x.voices.take j).map Mk=(Sd x).voices.map Vo.t:=by rw [Kl (l:=x.voices) hj3 (by omega),Yk];rfl
 refine XL.closeR (i:=7402) (j:=7301) (k:=k) (m:=0) (l':=((m.cells.take (k+1)).map Lg).set k [.row 84 2 (((x.clefs.take 8).map Cf.c).map (·.map T.d)), .own 7302]) [7302] R R R (Di (D4 hx)) R (List.set_set ..) (Ee (Js [] _) (Gn (E4 (T.inLL_d _ _)) (R)) _) R<|?_
 refine XL.closeT (i:=7402) (j:=7302) (k:=k) (m:=1) (l':=((m.cells.take (k+1)).map Lg).set k [.row 84 2 (((x.clefs.take 8).map Cf.c).map (·.map T.d)), .row 82 2 ((x.voices.take j).map Mk)]) [] R R R (Di (D4 hx)) R (List.set_set ..) (Ee (Js [] _) (Gn (E4 (T.inLL_d _ _)) (E4 (T.nil_in (L4 [] _) _))) _) R<|?_
 refine XL.rowqT (i:=7402) (l':=(m.cells.take (k+1)).map Lg) [] R (by rw [hvt];exact set_same (D4 hx)) (Js [] _)<|zp (Aa R R Db)<|?_
 refine XL.step R (Af (l':= [.d (dI m.h.site), .d (dI m.h.num), .d (dI m.h.m.count), .d (dI m.h.m.unit), .d (dI m.h.m.g0), .d (dI m.h.m.g1), .d (dI m.h.m.g2), .d (dI m.h.m.g3), .d (dI m.h.m.g4), .d (dI m.h.m.g5), .d (dI m.h.len), .d (dI m.h.fifths), .d (dB m.h.start), .d (dI m.h.fin), .d (dI m.h.ends), .d (dI m.h.jump), .d (dI m.h.labels), .d (dI m.h.swing), .d (dI m.h.brk), .d (.v (.string ⟨m.h.reh.toArray⟩)), .d (.sl 3 (m.tempi.map Tm.c)), .own 7402]) R R R R Ty R lb (by kernel_rfl))<|?_
 refine zn<|Ag (by kernel_rfl)<|zm R R<|zp (Al R R R (by omega) (by omega))<|za R R<|zn<|?_
 exact An (k+1) (⟨by omega,by omega⟩) (by omega) (fz ⟨sr,sr,sr,sr,trivial⟩) (gz ⟨rfl,rfl,rfl,trivial⟩)
 refine zk 2 R<|zq R R R<|zn<|A3 (by kernel_rfl) R<|Av<|Ag (by kernel_rfl)<|zp (Aa R R Db)<|zp (Ab R R Ht R R)<|zp (Ac (Ad R R M6 R lb))<|XL.step R (V7 68 (cs:= [.own 7301, .own 7302]) R Tryz.underlying28 Nc Gv R R (by decide) (by decide))<|?_
 refine XL.step R (Gx [7301,7302] (lr:=((m.cells.take (k+1)).map Lg).set k [.own 7301, .own 7302]) R Z2 (.own R) (SrcT.ownS R) (by unfold maxLen;simp;omega) (by simp;omega) (Oi hx _) (Ee (Js [] _) (Gn (R) (R)) _) R)<|?_
 have hvt:(x.voices.take j).map Mk=(Sd x).voices.map Vo.t:=by rw [Kl (l:=x.voices) hj3 (by omega),Yk];rfl
 refine XL.closeR (i:=7402) (j:=7301) (k:=k) (m:=0) (l':=((m.cells.take (k+1)).map Lg).set k [.row 84 2 (((x.clefs.take 8).map Cf.c).map (·.map T.d)), .own 7302]) [7302] R R R (Di (D4 hx)) R (List.set_set ..) (Ee (Js [] _) (Gn (E4 (T.inLL_d _ _)) (R)) _) R<|?_
 refine XL.closeT (i:=7402) (j:=7302) (k:=k) (m:=1) (l':=((m.cells.take (k+1)).map Lg).set k [.row 84 2 (((x.clefs.take 8).map Cf.c).map (·.map T.d)), .row 82 2 ((x.voices.take j).map Mk)]) [] R R R (Di (D4 hx)) R (List.set_set ..) (Ee (Js [] _) (Gn (E4 (T.inLL_d _ _)) (E4 (T.nil_in (L4 [] _) _))) _) R<|?_
 refine XL.rowqT (i:=7402) (l':=(m.cells.take (k+1)).map Lg) [] R (by rw [hvt];exact set_same (D4 hx)) (Js [] _)<|zp (Aa R R Db)<|?_
 refine XL.step R (Af (l':= [.d (dI m.h.site), .d (dI m.h.num), .d (dI m.h.m.count), .d (dI m.h.m.unit), .d (dI m.h.m.g0), .d (dI m.h.m.g1), .d (dI m.h.m.g2), .d (dI m.h.m.g3), .d (dI m.h.m.g4), .d (dI m.h.m.g5), .d (dI m.h.len), .d (dI m.h.fifths), .d (dB m.h.start), .d (dI m.h.fin), .d (dI m.h.ends), .d (dI m.h.jump), .d (dI m.h.labels), .d (dI m.h.swing), .d (dI m.h.brk), .d (.v (.string ⟨m.h.reh.toArray⟩)), .d (.sl 3 (m.tempi.map Tm.c)), .own 7402]) R R R R Ty R lb (by kernel_rfl))<|?_
 refine zn<|Ag (by kernel_rfl)<|zm R R<|zp (Al R R R (by omega) (by omega))<|za R R<|zn<|?_
 exact An (k+1) (⟨by omega,by omega⟩) (by omega) (fz ⟨sr,sr,sr,sr,trivial⟩) (gz ⟨rfl,rfl,rfl,trivial⟩)
 refine Av<|zr<|XL.step R (Bl 7401 R Tryz.underlying27 Ps L9 R R (by omega) (by omega))<|zp (Aa R R Fc)<|zp (Ab R R Q9 R R)<|zp (Aa R R Fc)<|zp (Ab R R Q9 R R)<|XL.len R R R Tryz.underlying27 fun hl76=>zp (Ft R R R)<|zp (K5 R R R O9)<|?_
 refine XL.step R (A7 R Z3 (.own R) (Src.sl (by omega)) (by unfold maxLen;simp;omega) (by simp;omega))<|zp (Aa R R Fc)<|?_
 refine XL.step R (Af (l':= [.d (dI m.h.site), .d (dI m.h.num), .d (dI m.h.m.count), .d (dI m.h.m.unit), .d (dI m.h.m.g0), .d (dI m.h.m.g1), .d (dI m.h.m.g2), .d (dI m.h.m.g3), .d (dI m.h.m.g4), .d (dI m.h.m.g5), .d (dI m.h.len), .d (dI m.h.fifths), .d (dB m.h.start), .d (dI m.h.fin), .d (dI m.h.ends), .d (dI m.h.jump), .d (dI m.h.labels), .d (dI m.h.swing), .d (dI m.h.brk), .d (.v (.string ⟨m.h.reh.toArray⟩)), .own 7401, .own 7402]) R R R R Tz R lb (by kernel_rfl))<|?_
 refine znr<|zp (Aa R R Jw)<|zp (Ab R R Km R R)<|zp (Aa R R Jw)<|zp (Ab R R Km R R)<|zp (K7 R R Tryz.underlying9)<|zp (Ft R R R)<|zp (Vi R R R Tryz.underlying9)<|zp (Aa R R Jw)<|?_
 refine XL.step R (Af (l':= [.d (dI m.h.site), .d (dI m.h.num), .d (dI m.h.m.count), .d (dI m.h.m.unit), .d (dI m.h.m.g0), .d (dI m.h.m.g1), .d (dI m.h.m.g2), .d (dI m.h.m.g3), .d (dI m.h.m.g4), .d (dI m.h.m.g5), .d (dI m.h.len), .d (dI m.h.fifths), .d (dB m.h.start), .d (dI m.h.fin), .d (dI m.h.ends), .d (dI m.h.jump), .d (dI m.h.labels), .d (dI m.h.swing), .d (dI m.h.brk), .d (.v (.string ⟨(m.h.reh.take 30).toArray⟩)), .own 7401, .own 7402]) R R R R Ak7 R lb (by kernel_rfl))<|?_
 refine znr<|zp (Ac (Ad R R Cj R lb))<|?_
 refine XL.step R (Af (l':= [.d (dI m.h.site), .d (dI m.h.num), .d (dI m.h.m.count), .d (dI m.h.m.unit), .d (dI m.h.m.g0), .d (dI m.h.m.g1), .d (dI m.h.m.g2), .d (dI m.h.m.g3), .d (dI m.h.m.g4), .d (dI m.h.m.g5), .d (dI m.h.len), .d (dI m.h.fifths), .d (dB m.h.start), .d (dI m.h.fin), .d (dI m.h.ends), .d (dI m.h.jump), .d (dI m.h.labels), .d (dI m.h.swing), .d (dI m.h.brk), .d (.v (.string ⟨(m.h.reh.take 30).toArray⟩)), .own 7401, .own 7402]) R R R R Gu R lb (by kernel_rfl))<|?_
 refine zn<|zt<|?_
 exact ⟨Cr R (RVS.eq (RVS.cells (i:=2) R R R Cj lb) R),HSub.cons (R) (HSub.cons (by rw [Kl (l:=m.cells) hk4 (by omega),Yl];rfl) (HSub.nil))⟩
 refine zk 2 R<|zq R R R<|zn<|A3 (by kernel_rfl) R<|Av<|zr<|XL.step R (Bl 7401 R Tryz.underlying27 Ps L9 R R (by omega) (by omega))<|zp (Aa R R Fc)<|zp (Ab R R Q9 R R)<|zp (Aa R R Fc)<|zp (Ab R R Q9 R R)<|XL.len R R R Tryz.underlying27 fun hl76=>zp (Ft R R R)<|zp (K5 R R R O9)<|?_
 refine XL.step R (A7 R Z3 (.own R) (Src.sl (by omega)) (by unfold maxLen;simp;omega) (by simp;omega))<|zp (Aa R R Fc)<|?_
 refine XL.step R (Af (l':= [.d (dI m.h.site), .d (dI m.h.num), .d (dI m.h.m.count), .d (dI m.h.m.unit), .d (dI m.h.m.g0), .d (dI m.h.m.g1), .d (dI m.h.m.g2), .d (dI m.h.m.g3), .d (dI m.h.m.g4), .d (dI m.h.m.g5), .d (dI m.h.len), .d (dI m.h.fifths), .d (dB m.h.start), .d (dI m.h.fin), .d (dI m.h.ends), .d (dI m.h.jump), .d (dI m.h.labels), .d (dI m.h.swing), .d (dI m.h.brk), .d (.v (.string ⟨m.h.reh.toArray⟩)), .own 7401, .own 7402]) R R R R Tz R lb (by kernel_rfl))<|?_
 refine znr<|zp (Aa R R Jw)<|zp (Ab R R Km R R)<|zp (Aa R R Jw)<|zp (Ab R R Km R R)<|zp (K7 R R Tryz.underlying9)<|zp (Ft R R R)<|zp (Vi R R R Tryz.underlying9)<|zp (Aa R R Jw)<|?_
 refine XL.step R (Af (l':= [.d (dI m.h.site), .d (dI m.h.num), .d (dI m.h.m.count), .d (dI m.h.m.unit), .d (dI m.h.m.g0), .d (dI m.h.m.g1), .d (dI m.h.m.g2), .d (dI m.h.m.g3), .d (dI m.h.m.g4), .d (dI m.h.m.g5), .d (dI m.h.len), .d (dI m.h.fifths), .d (dB m.h.start), .d (dI m.h.fin), .d (dI m.h.ends), .d (dI m.h.jump), .d (dI m.h.labels), .d (dI m.h.swing), .d (dI m.h.brk), .d (.v (.string ⟨(m.h.reh.take 30).toArray⟩)), .own 7401, .own 7402]) R R R R Ak7 R lb (by kernel_rfl))<|?_
 refine znr<|zp (Ac (Ad R R Cj R lb))<|?_
 refine XL.step R (Af (l':= [.d (dI m.h.site), .d (dI m.h.num), .d (dI m.h.m.count), .d (dI m.h.m.unit), .d (dI m.h.m.g0), .d (dI m.h.m.g1), .d (dI m.h.m.g2), .d (dI m.h.m.g3), .d (dI m.h.m.g4), .d (dI m.h.m.g5), .d (dI m.h.len), .d (dI m.h.fifths), .d (dB m.h.start), .d (dI m.h.fin), .d (dI m.h.ends), .d (dI m.h.jump), .d (dI m.h.labels), .d (dI m.h.swing), .d (dI m.h.brk), .d (.v (.string ⟨(m.h.reh.take 30).toArray⟩)), .own 7401, .own 7402]) R R R R Gu R lb (by kernel_rfl))<|?_
 refine zn<|zt<|?_
 exact ⟨Cr R (RVS.eq (RVS.cells (i:=2) R R R Cj lb) R),HSub.cons (R) (HSub.cons (by rw [Kl (l:=m.cells) hk4 (by omega),Yl];rfl) (HSub.nil))⟩
theorem XS.xc2 {P:Program} {F:FuncId} {ds:List D} {s:S} {i j:Nat} {e e2:TypeId} {sz sz2:Nat} {l l2:List (List D)} {t:List (List T)} {d:D} (hx:XS P F ds s [(i, .row e sz l),(j, .tree e2 sz2 [] t)]) (hj:((mkH [(i, .row e sz l),(j, .tree e2 sz2 [] t)]).frz i (.sl sz l)) j=some (.tree e2 sz2 [] t)) (hf:T.fzLL t=true) (ht:T.toDLL t=l2)
  (hd:norm ((s.frz i (.sl sz l)).frz j (.sl sz2 l2))= .d d):XC P F ds (fun r=>r=d):=
 ⟨hx.callable, fun H w vs h1 h2 h3 => (hx.calls H w vs h1 h2 h3).mono fun e w' ⟨H', β, u, he, k1, k2, k3⟩ => by
  obtain ⟨H2,q1,q2,q3⟩:=k1.freeze (i:=i) (by simp only [mkH];exact Xh.set_same _ _ _)
  obtain ⟨H3,p1,p2,p3⟩:=q3.freezeT (i:=j) hj hf
  rw [ht] at p2
  have hv:=VS.norm (((k2.mono (q1.trans p1) fun _ _ h=>h).frz i _ (fun L hL=>(q2 L hL).mono p1)).frz j _ p2)
  rw [hd] at hv
  exact ⟨H3, u, d, he, rfl, p3.ext, fun b o u e => p3.new b o u e, p3.imm, p3.below, D7 hv⟩⟩
theorem Alg (m:Ms) (h:m.room):XC Tryz.prog 14 [.agg (Ms.c m)] (fun r=>r= .agg (Ms.c (C5 m))):=(Alf m h).xc2 rfl (Ces.t_fz _) (Ces.t_D _) rfl
end Go.Proofs.YtaafemnkamfgnaaGreat
namespace Go.Proofs.YtaafemnkamfgnaaGreat
open Go.RowKit
structure DelG {α:Type} (p:α→Bool) (xs:List α) (j i:Nat) (W:List α):Prop where
 lt:i<j
 le:j≤xs.length
 len:W.length=xs.length
 take:W.take i=(xs.take j).filter p
 drop:W.drop j=xs.drop j
section
variable {α:Type} {p:α→Bool} {xs W:List α} {j i:Nat}
theorem Afg {l:List α} {k:Nat} {g:α} (h:l[k]? =some g) (hg:p g=false):(l.take (k+1)).filter p=(l.take k).filter p:=by rw [Bp h,List.filter_append,List.filter_cons_of_neg (by rw [hg];exact Bool.false_ne_true),List.filter_nil,List.append_nil]
theorem Th {l:List α} {k:Nat} {g:α} (h:l[k]? =some g) (hg:p g=true):(l.take (k+1)).filter p=(l.take k).filter p++ [g]:=by rw [Bp h,List.filter_append,List.filter_cons_of_pos hg,List.filter_nil]
theorem DelG.get (h:DelG p xs j i W) {g:α} (hg:xs[j]? =some g):W[j]? =some g:=by
 have:=congrArg (fun l=>l[0]?) h.drop
 simpa [List.getElem?_drop,hg] using this
theorem DelG.keep (h:DelG p xs j i W) {g:α} (hg:xs[j]? =some g) (h0:p g=false):DelG p xs (j+1) i W:=by
 have:=(List.getElem?_eq_some_iff.1 hg).1
 have:=h.lt
 refine ⟨by omega,by omega,h.len,by rw [Afg hg h0];exact h.take, ?_⟩
 rw [←List.drop_drop,h.drop,List.drop_drop]
theorem DelG.put (h:DelG p xs j i W) {g:α} (hg:xs[j]? =some g) (h0:p g=true):DelG p xs (j+1) (i+1) (W.set i g):=by
 have h1:=(List.getElem?_eq_some_iff.1 hg).1
 have h2:=h.lt
 have h3:=h.len
 refine ⟨by omega,by omega,by rw [List.length_set];exact h3, ?_, ?_⟩
 ·rw [Th hg h0, ←h.take,List.take_succ_eq_append_getElem (by rw [List.length_set];omega),List.getElem_set_self,List.take_set_of_le (Nat.le_refl _)]
 ·rw [List.drop_set_of_lt (by omega), ←List.drop_drop,h.drop,List.drop_drop]
theorem DelG.start {k:Nat} {g:α} (hg:xs[k]? =some g) (h0:p g=false) (hk:(xs.take k).filter p=xs.take k):DelG p xs (k+1) k xs:=
 ⟨by omega,by have:=(List.getElem?_eq_some_iff.1 hg).1;omega,rfl,by rw [Afg hg h0,hk],rfl⟩
theorem DelG.fin (h:DelG p xs j i W) (hj:j=xs.length):W.take i=xs.filter p:=by rw [h.take,hj,List.take_length]
theorem DelG.clr (h:DelG p xs j i W) {g:α→List D} {z:α} {zs:List D} (hz:zs=g z):sets (W.map g) i (List.replicate ((W.map g).length - i) zs)=(W.take i++List.replicate (W.length - i) z).map g:=by
 have:=h.lt;have:=h.le;have:=h.len
 subst hz
 rw [Jt _ _ _ (by rw [List.length_replicate,List.length_map];omega),List.drop_eq_nil_of_le (by rw [List.length_replicate,List.length_map];omega),List.append_nil,List.map_append,List.map_take,List.map_replicate,List.length_map]
theorem DelG.cut (h:DelG p xs j i W) {g:α→List D} {z:α}:(((W.take i++List.replicate (W.length - i) z).map g).take i)=(W.take i).map g:=by
 have:=h.lt;have:=h.le;have:=h.len
 rw [←List.map_take,List.take_append_of_le_length (by rw [List.length_take];omega),List.take_take,Nat.min_self]
end
def cfK (n:Int) (x:Cf):Bool:=decide (¬n≤x.tk)
def tmK (n:Int) (x:Tm):Bool:=decide (¬n≤x.tk)
theorem Akl {n:Int} {x:Cf} (h:n≤x.tk):cfK n x=false:=by rw [cfK,decide_eq_false];exact fun k=>k h
theorem Afs {n:Int} {x:Cf} (h:¬n≤x.tk):cfK n x=true:=by rw [cfK,decide_eq_true h]
theorem Ah3 {n:Int} {x:Tm} (h:n≤x.tk):tmK n x=false:=by rw [tmK,decide_eq_false];exact fun k=>k h
theorem Ael {n:Int} {x:Tm} (h:¬n≤x.tk):tmK n x=true:=by rw [tmK,decide_eq_true h]
def Cu (old p:Pl) (c:Ce):Ce:=⟨c.clefs.filter (cfK p.len),c.voices.map fun v=>(Ef v old p).1⟩
def Ix (old p:Pl):List Vo→Int
 | []=>0
 |v::l=>if (Ef v old p).2≠0 then (Ef v old p).2 else Ix old p l
def Kd (old p:Pl):List Ce→Int
 | []=>0
 |c::l=>if Ix old p c.voices≠0 then Ix old p c.voices else Kd old p l
theorem Amz {old p:Pl} {l:List Vo} {k:Nat} {v:Vo} (hv:l[k]? =some v) (h:(Ef v old p).2=0):Ix old p (l.drop k)=Ix old p (l.drop (k+1)):=by rw [Bz hv,Ix,if_neg (by omega)]
theorem Zs {old p:Pl} {l:List Vo} {k:Nat} {v:Vo} (hv:l[k]? =some v) (h:(Ef v old p).2≠0):Ix old p (l.drop k)=(Ef v old p).2:=by rw [Bz hv,Ix,if_pos h]
theorem Zt {old p:Pl} {l:List Ce} {k:Nat} {c:Ce} (hc:l[k]? =some c) (h:Ix old p c.voices=0):Kd old p (l.drop k)=Kd old p (l.drop (k+1)):=by rw [Bz hc,Kd,if_neg (by omega)]
theorem Am0 {old p:Pl} {l:List Ce} {k:Nat} {c:Ce} (hc:l[k]? =some c) (h:Ix old p c.voices≠0):Kd old p (l.drop k)=Ix old p c.voices:=by rw [Bz hc,Kd,if_pos h]
def Mh.z:Mh:=⟨0,0,Me.z,0,0,false,0,0,0,0,0,0, []⟩
def Ms.z:Ms:=⟨Mh.z, [], []⟩
def Ag9 (m:Ms) (t:Me) (n:Int) (old p:Pl):Ms:=⟨m.h.sh t n,m.tempi.filter (tmK p.len),m.cells.map (Cu old p)⟩
def Jk (m:Ms) (t:Me) (n:Int):Int:=if mlE m.h.m m.h.len≠0 then mlE m.h.m m.h.len else if mlE t n≠0 then mlE t n else Kd (plS m.h.m m.h.len) (plS t n) m.cells
def M0 (m:Ms) (t:Me) (n:Int):Ms:=if Jk m t n≠0 then Ms.z else Ag9 m t n (plS m.h.m m.h.len) (plS t n)
theorem At1 {m:Ms} {t:Me} {n:Int} (h:mlE m.h.m m.h.len≠0):Jk m t n=mlE m.h.m m.h.len∧M0 m t n=Ms.z:=by
 have e:Jk m t n=mlE m.h.m m.h.len:=by rw [Jk,if_pos h]
 exact ⟨e,by rw [M0,e,if_pos h]⟩
theorem Ary {m:Ms} {t:Me} {n:Int} (h:¬mlE m.h.m m.h.len≠0) (h2:mlE t n≠0):Jk m t n=mlE t n∧M0 m t n=Ms.z:=by
 have e:Jk m t n=mlE t n:=by rw [Jk,if_neg h,if_pos h2]
 exact ⟨e,by rw [M0,e,if_pos h2]⟩
theorem At0 {m:Ms} {t:Me} {n e:Int} (h:¬mlE m.h.m m.h.len≠0) (h2:¬mlE t n≠0) (h3:Kd (plS m.h.m m.h.len) (plS t n) m.cells=e) (h4:e≠0):Jk m t n=e∧M0 m t n=Ms.z:=by
 have e:Jk m t n=e:=by rw [Jk,if_neg h,if_neg h2,h3]
 exact ⟨e,by rw [M0,e,if_pos h4]⟩
theorem Arx {m:Ms} {t:Me} {n:Int} (h:¬mlE m.h.m m.h.len≠0) (h2:¬mlE t n≠0) (h3:Kd (plS m.h.m m.h.len) (plS t n) m.cells=0):Jk m t n=0∧M0 m t n=Ag9 m t n (plS m.h.m m.h.len) (plS t n):=by
 have e:Jk m t n=0:=by rw [Jk,if_neg h,if_neg h2,h3]
 exact ⟨e,by rw [M0,e,if_neg (by decide)]⟩
theorem Vs {m m':Ms} {e e':Int} (h:e=e'∧m=m'):D.tup [.agg (Ms.c m'),dI e']= .tup [.agg (Ms.c m),dI e]:=by rw [h.1,h.2]
theorem Amt (h:Mh) (t:Me) (n:Int) (A B:Option Addr) (n0 c0 n1 c1:Nat):XC Tryz.prog 16 [.agg [dI (h.sh t n).site,dI (h.sh t n).num,dI (h.sh t n).m.count,dI (h.sh t n).m.unit,dI (h.sh t n).m.g0,dI (h.sh t n).m.g1,dI (h.sh t n).m.g2,dI (h.sh t n).m.g3,dI (h.sh t n).m.g4,dI (h.sh t n).m.g5,dI (h.sh t n).len,dI (h.sh t n).fifths,dB (h.sh t n).start,dI (h.sh t n).fin,dI (h.sh t n).ends,dI (h.sh t n).jump,dI (h.sh t n).labels,dI (h.sh t n).swing,dI (h.sh t n).brk, .v (.string ⟨(h.sh t n).reh.toArray⟩), .v (.slice A n0 c0), .v (.slice B n1 c1)]] (fun r=>r= .tup [.agg (Pl.c (plS t n)),dI (mlE t n)]):=by
 have k:=Amc (h.sh t n) A B n0 c0 n1 c1
 have e1:plS (h.sh t n).m (h.sh t n).len=plS t n:=Aq2
 have e2:mlE (h.sh t n).m (h.sh t n).len=mlE t n:=Ug
 rw [e1,e2] at k
 exact k
theorem Aip {t:Me} {n:Int} (h:¬mlE t n≠0):1≤(plS t n).len∧(plS t n).len≤15482880∧0≤(plS t n).off∧(plS t n).off≤123863040:=by
 have k:=Al8 h
 have hl:=k.me.len
 rw [Alt h]
 exact ⟨k.lo,k.hi,by simp only;omega,by simp only;have:=k.lo;omega⟩
end Go.Proofs.YtaafemnkamfgnaaGreat
namespace Go.Proofs.YtaafemnkamfgnaaGreat
open Go.RowKit
theorem Ape (m:Ms) (t:Me) (n:Int) (hF:m.fit) (hE:m.evs):XC Tryz.prog 28 [.agg (Ms.c m), .agg (Me.c t), .v (.int .i64 n)] (fun r=>r= .tup [.agg (Ms.c (M0 m t n)),dI (Jk m t n)]):=by
 refine Ap Ad5 Tryz.func28 R R lb<|zr<|?_
 refine XL.step R (At 3 (l:= [.d (dI m.h.site), .d (dI m.h.num), .d (dI m.h.m.count), .d (dI m.h.m.unit), .d (dI m.h.m.g0), .d (dI m.h.m.g1), .d (dI m.h.m.g2), .d (dI m.h.m.g3), .d (dI m.h.m.g4), .d (dI m.h.m.g5), .d (dI m.h.len), .d (dI m.h.fifths), .d (dB m.h.start), .d (dI m.h.fin), .d (dI m.h.ends), .d (dI m.h.jump), .d (dI m.h.labels), .d (dI m.h.swing), .d (dI m.h.brk), .d (.v (.string ⟨m.h.reh.toArray⟩)), .d (.sl 3 (m.tempi.map Tm.c)), .d (.sl 2 (m.cells.map Ce.c))]) R R (by kernel_rfl))<|?_
 refine XL.step R (At 4 (l:= [.d (dI t.count), .d (dI t.unit), .d (dI t.g0), .d (dI t.g1), .d (dI t.g2), .d (dI t.g3), .d (dI t.g4), .d (dI t.g5)]) R R (by kernel_rfl))<|?_
 refine XL.step R (Ax 6 (l:= [.d (dI 0), .d (dI 0), .d (dI 0), .d (dI 0), .d (dI 0), .d (dI 0), .d (dI 0), .d (dI 0), .d (dI 0), .d (dI 0), .d (dI 0), .d (dI 0), .d (dB false), .d (dI 0), .d (dI 0), .d (dI 0), .d (dI 0), .d (dI 0), .d (dI 0), .d (.v (.string ⟨#[]⟩)), .d (.v (.slice none 0 0)), .d (.v (.slice none 0 0))]) R F9 (by kernel_rfl))<|za R R<|znr<|?_
 refine zp (Ae (s':= .d (.agg (Ms.c m))) (Ac (Ad R R Cj R lb)) (by kernel_rfl))<|XL.call1 R R (Amd m.h m.tempi m.cells) R<|zm R R<|zp (As R R R)<|zp (As R R R)<|XL.step R (Ax 8 (l:= [.d (dI 0), .d (dI 0), .d (dI 0), .d (dI 0), .d (dI 0), .d (dI 0), .d (dI 0), .d (dI 0), .d (dI 0), .d (dI 0)]) R Hi (by kernel_rfl))<|?_
 refine XL.step R (Af (l':= [.d (dI (plS m.h.m m.h.len).m.count), .d (dI (plS m.h.m m.h.len).m.unit), .d (dI (plS m.h.m m.h.len).m.g0), .d (dI (plS m.h.m m.h.len).m.g1), .d (dI (plS m.h.m m.h.len).m.g2), .d (dI (plS m.h.m m.h.len).m.g3), .d (dI (plS m.h.m m.h.len).m.g4), .d (dI (plS m.h.m m.h.len).m.g5), .d (dI (plS m.h.m m.h.len).off), .d (dI (plS m.h.m m.h.len).len)]) R R R R Nf R lb (by kernel_rfl))<|?_
 refine za R R<|zn<|zs<|zr<|zm R R<|zp (A5 R R R)<|zn<|?_
 refine zd R (fun c21=> ?_) (fun c21=> ?_)
 refine zr<|?_
 refine zp (Ae (s':= .d (.agg [dI 0,dI 0,dI 0,dI 0,dI 0,dI 0,dI 0,dI 0,dI 0,dI 0,dI 0,dI 0,dB false,dI 0,dI 0,dI 0,dI 0,dI 0,dI 0, .v (.string ⟨#[]⟩), .v (.slice none 0 0), .v (.slice none 0 0)])) (Ac (Ba (r:= [.d (dI 0), .d (dI 0), .d (dI 0), .d (dI 0), .d (dI 0), .d (dI 0), .d (dI 0), .d (dI 0), .d (dI 0), .d (dI 0), .d (dI 0), .d (dI 0), .d (dB false), .d (dI 0), .d (dI 0), .d (dI 0), .d (dI 0), .d (dI 0), .d (dI 0), .d (.v (.string ⟨#[]⟩)), .d (.v (.slice none 0 0)), .d (.v (.slice none 0 0))]) R Pu F9 (by kernel_rfl))) (by kernel_rfl))<|?_
 refine zm R R<|XL.step R (Af (l':= [.d (dI 0), .d (dI 0), .d (dI 0), .d (dI 0), .d (dI 0), .d (dI 0), .d (dI 0), .d (dI 0), .d (dI 0), .d (dI 0), .d (dI 0), .d (dI 0), .d (dB false), .d (dI 0), .d (dI 0), .d (dI 0), .d (dI 0), .d (dI 0), .d (dI 0), .d (.v (.string ⟨#[]⟩)), .d (.v (.slice none 0 0)), .d (.v (.slice none 0 0))]) R R R R Gu R lb (by kernel_rfl))<|za R R<|zn<|zt<|?_
 exact A6 R (RV.sub (RV.cells R R R Cj lb R) (.agg (.cons (.same R) (.cons (.same R) (.cons (.same R) (.cons (.same R) (.cons (.same R) (.cons (.same R) (.cons (.same R) (.cons (.same R) (.cons (.same R) (.cons (.same R) (.cons (.same R) (.cons (.same R) (.cons (.same R) (.cons (.same R) (.cons (.same R) (.cons (.same R) (.cons (.same R) (.cons (.same R) (.cons (.same R) (.cons (.same R) (.cons (.nil 3) (.cons (.nil 2) (.nil))))))))))))))))))))))))) (RV.tmp R R) (Vs (At1 c21))
 refine zi<|zs<|?_
 refine Ma 9 10 [7401,7402,10] id 10 (S9 10 (.box [.d (dI (m.h.sh t n).site), .d (dI (m.h.sh t n).num), .d (dI (m.h.sh t n).m.count), .d (dI (m.h.sh t n).m.unit), .d (dI (m.h.sh t n).m.g0), .d (dI (m.h.sh t n).m.g1), .d (dI (m.h.sh t n).m.g2), .d (dI (m.h.sh t n).m.g3), .d (dI (m.h.sh t n).m.g4), .d (dI (m.h.sh t n).m.g5), .d (dI (m.h.sh t n).len), .d (dI (m.h.sh t n).fifths), .d (dB (m.h.sh t n).start), .d (dI (m.h.sh t n).fin), .d (dI (m.h.sh t n).ends), .d (dI (m.h.sh t n).jump), .d (dI (m.h.sh t n).labels), .d (dI (m.h.sh t n).swing), .d (dI (m.h.sh t n).brk), .d (.v (.string ⟨(m.h.sh t n).reh.toArray⟩)), .own 7401, .own 7402])) (by kernel_rfl) (by kernel_rfl) (by kernel_rfl) (by kernel_rfl) R (by decide)<|?_
 refine ChMK.bf R (CStep.pure (Ae (s':= .d (.agg (Ms.c m))) (Ac (Ad R R Cj R lb)) (by kernel_rfl))) (by conv=>lhs;whnf)<|?_
 refine ChMK.bfS R (CStep.callS R (Ai8 _ (by assumption)) R (Mv (by kernel_rfl))) (by conv=>lhs;whnf) (by simp only [List.forall_mem_cons];exact ⟨rfl,⟨rfl,fun p hp=>(by cases hp)⟩⟩) (by simp only [List.forall_mem_cons];exact ⟨rfl,⟨rfl,fun p hp=>(by cases hp)⟩⟩)<|?_
 refine ChMK.bf R (CStep.pure (Ae (s':= .d (.agg (Me.c t))) (Ac (Ad R R Bn R lb)) (by kernel_rfl))) (by conv=>lhs;whnf)<|?_
 refine ChMK.bf R (CStep.pure (Ao R (by conv=>lhs;whnf))) (by conv=>lhs;whnf)<|?_
 refine ChMK.bf R (CStep.callP [7401,7402] R [.agg [.d (dI m.h.site), .d (dI m.h.num), .d (dI m.h.m.count), .d (dI m.h.m.unit), .d (dI m.h.m.g0), .d (dI m.h.m.g1), .d (dI m.h.m.g2), .d (dI m.h.m.g3), .d (dI m.h.m.g4), .d (dI m.h.m.g5), .d (dI m.h.len), .d (dI m.h.fifths), .d (dB m.h.start), .d (dI m.h.fin), .d (dI m.h.ends), .d (dI m.h.jump), .d (dI m.h.labels), .d (dI m.h.swing), .d (dI m.h.brk), .d (.v (.string ⟨m.h.reh.toArray⟩)), .own 7401, .own 7402], .d (.agg (Me.c t)), .d (dI n)] R (s:= .tup [.agg [.d (dI (m.h.sh t n).site), .d (dI (m.h.sh t n).num), .d (dI (m.h.sh t n).m.count), .d (dI (m.h.sh t n).m.unit), .d (dI (m.h.sh t n).m.g0), .d (dI (m.h.sh t n).m.g1), .d (dI (m.h.sh t n).m.g2), .d (dI (m.h.sh t n).m.g3), .d (dI (m.h.sh t n).m.g4), .d (dI (m.h.sh t n).m.g5), .d (dI (m.h.sh t n).len), .d (dI (m.h.sh t n).fifths), .d (dB (m.h.sh t n).start), .d (dI (m.h.sh t n).fin), .d (dI (m.h.sh t n).ends), .d (dI (m.h.sh t n).jump), .d (dI (m.h.sh t n).labels), .d (dI (m.h.sh t n).swing), .d (dI (m.h.sh t n).brk), .d (.v (.string ⟨(m.h.sh t n).reh.toArray⟩)), .own 7401, .own 7402], .d (dI (mlE t n))]) (fun ρ=>Alh m.h _ _ _ _ _ _ t n) R R R R) (by conv=>lhs;whnf)<|?_
 refine ChMK.bf R (CStep.pure (Ao R (by conv=>lhs;whnf))) (by conv=>lhs;whnf)<|?_
 refine ChMK.bf R (CStep.pure (Yz R R R)) (by conv=>lhs;whnf)<|?_
 refine ChMK.fr R R (CStep.pure (Yz R R R)) (CStep.pure (Yz R R R)) (by exact rfl)<|?_
 refine ChMK.bfO R (CStep.allocN 10 (l:= [.d (dI 0), .d (dI 0), .d (dI 0), .d (dI 0), .d (dI 0), .d (dI 0), .d (dI 0), .d (dI 0), .d (dI 0), .d (dI 0), .d (dI 0), .d (dI 0), .d (dB false), .d (dI 0), .d (dI 0), .d (dI 0), .d (dI 0), .d (dI 0), .d (dI 0), .d (.v (.string ⟨#[]⟩)), .d (.v (.slice none 0 0)), .d (.v (.slice none 0 0))]) R F9 R R) (by conv=>lhs;whnf) (fun _ _=>Amb _ _)<|?_
 refine ChMK.mu R (Apf (l2:= [.d (dI (m.h.sh t n).site), .d (dI (m.h.sh t n).num), .d (dI (m.h.sh t n).m.count), .d (dI (m.h.sh t n).m.unit), .d (dI (m.h.sh t n).m.g0), .d (dI (m.h.sh t n).m.g1), .d (dI (m.h.sh t n).m.g2), .d (dI (m.h.sh t n).m.g3), .d (dI (m.h.sh t n).m.g4), .d (dI (m.h.sh t n).m.g5), .d (dI (m.h.sh t n).len), .d (dI (m.h.sh t n).fifths), .d (dB (m.h.sh t n).start), .d (dI (m.h.sh t n).fin), .d (dI (m.h.sh t n).ends), .d (dI (m.h.sh t n).jump), .d (dI (m.h.sh t n).labels), .d (dI (m.h.sh t n).swing), .d (dI (m.h.sh t n).brk), .d (.v (.string ⟨(m.h.sh t n).reh.toArray⟩)), .own 7401, .own 7402]) R R R R Gu R lb (by kernel_rfl))<|?_
 refine ChMK.nil ⟨⟨by kernel_rfl,by kernel_rfl,by kernel_rfl⟩, ?_⟩
 refine za R R<|zn<|zs<|zr<|zm R R<|zp (A5 R R R)<|zn<|?_
 refine zd R (fun c33=> ?_) (fun c33=> ?_)
 refine zr<|?_
 refine zp (Ae (s':= .d (.agg [dI 0,dI 0,dI 0,dI 0,dI 0,dI 0,dI 0,dI 0,dI 0,dI 0,dI 0,dI 0,dB false,dI 0,dI 0,dI 0,dI 0,dI 0,dI 0, .v (.string ⟨#[]⟩), .v (.slice none 0 0), .v (.slice none 0 0)])) (Ac (Ba (r:= [.d (dI 0), .d (dI 0), .d (dI 0), .d (dI 0), .d (dI 0), .d (dI 0), .d (dI 0), .d (dI 0), .d (dI 0), .d (dI 0), .d (dI 0), .d (dI 0), .d (dB false), .d (dI 0), .d (dI 0), .d (dI 0), .d (dI 0), .d (dI 0), .d (dI 0), .d (.v (.string ⟨#[]⟩)), .d (.v (.slice none 0 0)), .d (.v (.slice none 0 0))]) R Pu F9 (by kernel_rfl))) (by kernel_rfl))<|?_
 refine zm R R<|XL.step R (Af (l':= [.d (dI 0), .d (dI 0), .d (dI 0), .d (dI 0), .d (dI 0), .d (dI 0), .d (dI 0), .d (dI 0), .d (dI 0), .d (dI 0), .d (dI 0), .d (dI 0), .d (dB false), .d (dI 0), .d (dI 0), .d (dI 0), .d (dI 0), .d (dI 0), .d (dI 0), .d (.v (.string ⟨#[]⟩)), .d (.v (.slice none 0 0)), .d (.v (.slice none 0 0))]) R R R R Gu R lb (by kernel_rfl))<|za R R<|zn<|zt<|?_
 exact A6 R (RV.sub (RV.cells R R R Cj lb R) (.agg (.cons (.same R) (.cons (.same R) (.cons (.same R) (.cons (.same R) (.cons (.same R) (.cons (.same R) (.cons (.same R) (.cons (.same R) (.cons (.same R) (.cons (.same R) (.cons (.same R) (.cons (.same R) (.cons (.same R) (.cons (.same R) (.cons (.same R) (.cons (.same R) (.cons (.same R) (.cons (.same R) (.cons (.same R) (.cons (.same R) (.cons (.nil 3) (.cons (.nil 2) (.nil))))))))))))))))))))))))) (RV.tmp R R) (Vs (Ary c21 c33))
 refine zi<|zr<|zp (Ac (Ad R R Cj R lb))<|?_
 refine XL.callP [7401,7402] R R [.agg [.d (dI (m.h.sh t n).site), .d (dI (m.h.sh t n).num), .d (dI (m.h.sh t n).m.count), .d (dI (m.h.sh t n).m.unit), .d (dI (m.h.sh t n).m.g0), .d (dI (m.h.sh t n).m.g1), .d (dI (m.h.sh t n).m.g2), .d (dI (m.h.sh t n).m.g3), .d (dI (m.h.sh t n).m.g4), .d (dI (m.h.sh t n).m.g5), .d (dI (m.h.sh t n).len), .d (dI (m.h.sh t n).fifths), .d (dB (m.h.sh t n).start), .d (dI (m.h.sh t n).fin), .d (dI (m.h.sh t n).ends), .d (dI (m.h.sh t n).jump), .d (dI (m.h.sh t n).labels), .d (dI (m.h.sh t n).swing), .d (dI (m.h.sh t n).brk), .d (.v (.string ⟨(m.h.sh t n).reh.toArray⟩)), .own 7401, .own 7402]] R (s:= .d (.tup [.agg (Pl.c (plS t n)),dI (mlE t n)])) (fun ρ=>Amt m.h t n _ _ _ _ _ _) R R R R<|?_
 refine zm R R<|zp (As R R R)<|zp (As R R R)<|XL.step R (Ax 11 (l:= [.d (dI 0), .d (dI 0), .d (dI 0), .d (dI 0), .d (dI 0), .d (dI 0), .d (dI 0), .d (dI 0), .d (dI 0), .d (dI 0)]) R Hi (by kernel_rfl))<|?_
 refine XL.step R (Af (l':= [.d (dI (plS t n).m.count), .d (dI (plS t n).m.unit), .d (dI (plS t n).m.g0), .d (dI (plS t n).m.g1), .d (dI (plS t n).m.g2), .d (dI (plS t n).m.g3), .d (dI (plS t n).m.g4), .d (dI (plS t n).m.g5), .d (dI (plS t n).off), .d (dI (plS t n).len)]) R R R R Nf R lb (by kernel_rfl))<|za R R<|zn<|zs<|zr<|zm R R<|zp (A5 R R R)<|zn<|?_
 refine zd R (fun c42=> ?_) (fun c42=> ?_)
 refine zr<|?_
 refine zp (Ae (s':= .d (.agg [dI 0,dI 0,dI 0,dI 0,dI 0,dI 0,dI 0,dI 0,dI 0,dI 0,dI 0,dI 0,dB false,dI 0,dI 0,dI 0,dI 0,dI 0,dI 0, .v (.string ⟨#[]⟩), .v (.slice none 0 0), .v (.slice none 0 0)])) (Ac (Ba (r:= [.d (dI 0), .d (dI 0), .d (dI 0), .d (dI 0), .d (dI 0), .d (dI 0), .d (dI 0), .d (dI 0), .d (dI 0), .d (dI 0), .d (dI 0), .d (dI 0), .d (dB false), .d (dI 0), .d (dI 0), .d (dI 0), .d (dI 0), .d (dI 0), .d (dI 0), .d (.v (.string ⟨#[]⟩)), .d (.v (.slice none 0 0)), .d (.v (.slice none 0 0))]) R Pu F9 (by kernel_rfl))) (by kernel_rfl))<|?_
 refine zm R R<|XL.step R (Af (l':= [.d (dI 0), .d (dI 0), .d (dI 0), .d (dI 0), .d (dI 0), .d (dI 0), .d (dI 0), .d (dI 0), .d (dI 0), .d (dI 0), .d (dI 0), .d (dI 0), .d (dB false), .d (dI 0), .d (dI 0), .d (dI 0), .d (dI 0), .d (dI 0), .d (dI 0), .d (.v (.string ⟨#[]⟩)), .d (.v (.slice none 0 0)), .d (.v (.slice none 0 0))]) R R R R Gu R lb (by kernel_rfl))<|za R R<|zn<|zt<|?_
 exact A6 R (RV.sub (RV.cells R R R Cj lb R) (.agg (.cons (.same R) (.cons (.same R) (.cons (.same R) (.cons (.same R) (.cons (.same R) (.cons (.same R) (.cons (.same R) (.cons (.same R) (.cons (.same R) (.cons (.same R) (.cons (.same R) (.cons (.same R) (.cons (.same R) (.cons (.same R) (.cons (.same R) (.cons (.same R) (.cons (.same R) (.cons (.same R) (.cons (.same R) (.cons (.same R) (.cons (.nil 3) (.cons (.nil 2) (.nil))))))))))))))))))))))))) (RV.tmp R R) (Vs (Ary c21 c42))
 refine zi<|zs<|zs<|?_
 have h1:=hF.tempi
 have h2:=hF.cells
 have hO:=Aip c21
 have hP:=Aip (t:=t) (n:=n) c33
 refine Ag (by kernel_rfl)<|XL.freezeP 8 (ds:=Pl.c (plS m.h.m m.h.len)) R (by kernel_rfl) (by kernel_rfl)<|XL.freezeP 11 (ds:=Pl.c (plS t n)) R (by kernel_rfl) (by kernel_rfl)<|zp (Aa R R Db)<|zp (Ab R R Ht R R)<|zp (Ae (s':= .d (dI m.cells.length)) (Ub R R R Tryz.underlying28) (sI (by rw [List.length_map])))<|zm R R<|zn<|Ah<|?_
 refine A4 (α:=Nat) (fun k=>k≤m.cells.length∧Kd (plS m.h.m m.h.len) (plS t n) (m.cells.drop k)=Kd (plS m.h.m m.h.len) (plS t n) m.cells) (fun k=>mkF [(6, .ptr 6 0 0),(8, .d (.pt (Pl.c (plS m.h.m m.h.len)))),(10, .ptr 10 0 0),(11, .d (.pt (Pl.c (plS t n)))),(47, .d (dI m.cells.length)),(48, .d (dI k))]) (fun k=>mkH [(6, .box [.d (dI 0), .d (dI 0), .d (dI 0), .d (dI 0), .d (dI 0), .d (dI 0), .d (dI 0), .d (dI 0), .d (dI 0), .d (dI 0), .d (dI 0), .d (dI 0), .d (dB false), .d (dI 0), .d (dI 0), .d (dI 0), .d (dI 0), .d (dI 0), .d (dI 0), .d (.v (.string ⟨#[]⟩)), .d (.v (.slice none 0 0)), .d (.v (.slice none 0 0))]),(10, .box [.d (dI (m.h.sh t n).site), .d (dI (m.h.sh t n).num), .d (dI (m.h.sh t n).m.count), .d (dI (m.h.sh t n).m.unit), .d (dI (m.h.sh t n).m.g0), .d (dI (m.h.sh t n).m.g1), .d (dI (m.h.sh t n).m.g2), .d (dI (m.h.sh t n).m.g3), .d (dI (m.h.sh t n).m.g4), .d (dI (m.h.sh t n).m.g5), .d (dI (m.h.sh t n).len), .d (dI (m.h.sh t n).fifths), .d (dB (m.h.sh t n).start), .d (dI (m.h.sh t n).fin), .d (dI (m.h.sh t n).ends), .d (dI (m.h.sh t n).jump), .d (dI (m.h.sh t n).labels), .d (dI (m.h.sh t n).swing), .d (dI (m.h.sh t n).brk), .d (.v (.string ⟨(m.h.sh t n).reh.toArray⟩)), .own 7401, .own 7402]),(7401, .row 119 3 ((m.tempi).map Tm.c)),(7402, .tree 78 2 [] (mix Ce.u Ce.t ((m.cells.take k).map (Cu (plS m.h.m m.h.len) (plS t n))) (m.cells.drop k)))]) (fun k=>m.cells.length - k) (0) (⟨Nat.zero_le _,R⟩) ?_ ?_ ?_
 exact fz ⟨sr,sr,sr,sr,sr,sr,trivial⟩
 exact gz ⟨R,R,R,R,trivial⟩
 intro k hk0
 obtain ⟨hk,hgo⟩:=hk0
 refine zr<|zp (Au R R R)<|zn<|zs<|?_
 refine zd R (fun c49=> ?_) (fun c49=> ?_)
 have hk0a:k<m.cells.length:=by omega
 obtain ⟨x0,hx0⟩:=Az hk0a
 refine zi<|zs<|Ah<|zr<|zm R R<|za R R<|znr<|zp (Aa R R Db)<|zp (Ab R R Ht R R)<|zm R R<|zp (Ov R R R (R) R Kg (Y6 hk0a))<|zp (Ar R (by conv=>lhs;whnf))<|?_
 refine zn<|zs<|zs<|?_
 have hcl:=(hF.c x0 (List.mem_of_getElem? hx0)).clefs
 have hvl:=(hF.c x0 (List.mem_of_getElem? hx0)).voices
 refine Aku (i:=7402) (j:=7502) (k:=k) (m:=1) (l':=(mix Ce.u Ce.t ((m.cells.take k).map (Cu (plS m.h.m m.h.len) (plS t n))) (m.cells.drop k)).set k [.row 84 2 (((x0.clefs).map Cf.c).map (·.map T.d)), .own 7502]) [] (x0.voices.map Vo.t) R R R (F0 hx0) R (Vos.t_in [] _) (R)<|?_
 refine R7 (i:=7402) (j:=7501) (k:=k) (m:=0) (l':=(mix Ce.u Ce.t ((m.cells.take k).map (Cu (plS m.h.m m.h.len) (plS t n))) (m.cells.drop k)).set k [.own 7501, .own 7502]) ((x0.clefs).map Cf.c) R R R (Di (F0 hx0)) R (List.set_set ..)<|Ag (by kernel_rfl)<|zp (Ao R (by conv=>lhs;whnf))<|?_
 refine zp (H5 R R)<|zp (Aa R R Ea)<|zp (Ae (s':= .own 7502) (I9 R R Hs R (Di (F0 hx0)) R) R)<|zp (Ae (s':= .d (dI x0.voices.length)) (Ub R R R Tryz.underlying76) (sI (by rw [List.length_map])))<|zm R R<|zn<|Ah<|?_
 refine A4 (α:=Nat) (fun j=>j≤x0.voices.length∧Ix (plS m.h.m m.h.len) (plS t n) (x0.voices.drop j)=Ix (plS m.h.m m.h.len) (plS t n) x0.voices) (fun j=>mkF [(6, .ptr 6 0 0),(8, .d (.pt (Pl.c (plS m.h.m m.h.len)))),(10, .ptr 10 0 0),(11, .d (.pt (Pl.c (plS t n)))),(13, .ptr 7402 k 0),(47, .d (dI m.cells.length)),(48, .d (dI k)),(59, .d (dI x0.voices.length)),(60, .d (dI j))]) (fun j=>mkH [(6, .box [.d (dI 0), .d (dI 0), .d (dI 0), .d (dI 0), .d (dI 0), .d (dI 0), .d (dI 0), .d (dI 0), .d (dI 0), .d (dI 0), .d (dI 0), .d (dI 0), .d (dB false), .d (dI 0), .d (dI 0), .d (dI 0), .d (dI 0), .d (dI 0), .d (dI 0), .d (.v (.string ⟨#[]⟩)), .d (.v (.slice none 0 0)), .d (.v (.slice none 0 0))]),(10, .box [.d (dI (m.h.sh t n).site), .d (dI (m.h.sh t n).num), .d (dI (m.h.sh t n).m.count), .d (dI (m.h.sh t n).m.unit), .d (dI (m.h.sh t n).m.g0), .d (dI (m.h.sh t n).m.g1), .d (dI (m.h.sh t n).m.g2), .d (dI (m.h.sh t n).m.g3), .d (dI (m.h.sh t n).m.g4), .d (dI (m.h.sh t n).m.g5), .d (dI (m.h.sh t n).len), .d (dI (m.h.sh t n).fifths), .d (dB (m.h.sh t n).start), .d (dI (m.h.sh t n).fin), .d (dI (m.h.sh t n).ends), .d (dI (m.h.sh t n).jump), .d (dI (m.h.sh t n).labels), .d (dI (m.h.sh t n).swing), .d (dI (m.h.sh t n).brk), .d (.v (.string ⟨(m.h.sh t n).reh.toArray⟩)), .own 7401, .own 7402]),(7401, .row 119 3 ((m.tempi).map Tm.c)),(7402, .tree 78 2 [7501,7502] ((mix Ce.u Ce.t ((m.cells.take k).map (Cu (plS m.h.m m.h.len) (plS t n))) (m.cells.drop k)).set k [.own 7501, .own 7502])),(7501, .row 84 2 ((x0.clefs).map Cf.c)),(7502, .tree 82 2 [] (mix Vo.u Vo.t ((x0.voices.take j).map (fun v=>(Ef v (plS m.h.m m.h.len) (plS t n)).1)) (x0.voices.drop j)))]) (fun j=>x0.voices.length - j) (0) (⟨Nat.zero_le _,R⟩) ?_ ?_ ?_
 exact fz ⟨sr,sr,sr,sr,sr,sr,sr,sr,sr,trivial⟩
 exact gz ⟨R,R,R,R,R,R,trivial⟩
 intro j hk2
 obtain ⟨hj,hgv⟩:=hk2
 refine zr<|zp (Au R R R)<|zn<|zs<|?_
 refine zd R (fun c61=> ?_) (fun c61=> ?_)
 have hk2a:j<x0.voices.length:=by omega
 obtain ⟨x2,hx2⟩:=Az hk2a
 refine zi<|zs<|Ah<|zr<|zm R R<|za R R<|zn<|zs<|?_
 have hfv:=(hF.c x0 (List.mem_of_getElem? hx0)).v x2 (List.mem_of_getElem? hx2)
 have hEv:=hE x0 (List.mem_of_getElem? hx0) x2 (List.mem_of_getElem? hx2)
 have hfl:=hfv.evs
 refine R7 (i:=7502) (j:=7601) (k:=j) (m:=0) (l':=(mix Vo.u Vo.t ((x0.voices.take j).map (fun v=>(Ef v (plS m.h.m m.h.len) (plS t n)).1)) (x0.voices.drop j)).set j [.own 7601, .row 157 4 (((x2.tups).map Tp.c).map (·.map T.d))]) ((x2.evs).map Ev.c) R R R (F0 hx2) R (R)<|?_
 refine R7 (i:=7502) (j:=7602) (k:=j) (m:=1) (l':=(mix Vo.u Vo.t ((x0.voices.take j).map (fun v=>(Ef v (plS m.h.m m.h.len) (plS t n)).1)) (x0.voices.drop j)).set j [.own 7601, .own 7602]) ((x2.tups).map Tp.c) R R R (Di (F0 hx2)) R (List.set_set ..)<|Pk (i:=7602) R<|?_
 refine X0 (i:=7502) (l':=(mix Vo.u Vo.t ((x0.voices.take j).map (fun v=>(Ef v (plS m.h.m m.h.len) (plS t n)).1)) (x0.voices.drop j)).set j [.own 7601, .d (.sl 4 (x2.tups.map Tp.c))]) [7601] R (Uf (Rd [] _ _) R) (Ee (Rd [] _ _) (Gn (R) (R)) _)<|?_
 refine Aeh 14 19 20 (S.kills [900001,7601,5003,5004,5005,5006,5029,900002,7001]) (mkH [(6, .box [.d (dI 0), .d (dI 0), .d (dI 0), .d (dI 0), .d (dI 0), .d (dI 0), .d (dI 0), .d (dI 0), .d (dI 0), .d (dI 0), .d (dI 0), .d (dI 0), .d (dB false), .d (dI 0), .d (dI 0), .d (dI 0), .d (dI 0), .d (dI 0), .d (dI 0), .d (.v (.string ⟨#[]⟩)), .d (.v (.slice none 0 0)), .d (.v (.slice none 0 0))]),(10, .box [.d (dI (m.h.sh t n).site), .d (dI (m.h.sh t n).num), .d (dI (m.h.sh t n).m.count), .d (dI (m.h.sh t n).m.unit), .d (dI (m.h.sh t n).m.g0), .d (dI (m.h.sh t n).m.g1), .d (dI (m.h.sh t n).m.g2), .d (dI (m.h.sh t n).m.g3), .d (dI (m.h.sh t n).m.g4), .d (dI (m.h.sh t n).m.g5), .d (dI (m.h.sh t n).len), .d (dI (m.h.sh t n).fifths), .d (dB (m.h.sh t n).start), .d (dI (m.h.sh t n).fin), .d (dI (m.h.sh t n).ends), .d (dI (m.h.sh t n).jump), .d (dI (m.h.sh t n).labels), .d (dI (m.h.sh t n).swing), .d (dI (m.h.sh t n).brk), .d (.v (.string ⟨(m.h.sh t n).reh.toArray⟩)), .own 7401, .own 7402]),(7401, .row 119 3 ((m.tempi).map Tm.c)),(7402, .tree 78 2 [7501,7502] ((mix Ce.u Ce.t ((m.cells.take k).map (Cu (plS m.h.m m.h.len) (plS t n))) (m.cells.drop k)).set k [.own 7501, .own 7502])),(7501, .row 84 2 ((x0.clefs).map Cf.c)),(7502, .tree 82 2 [] ((mix Vo.u Vo.t ((x0.voices.take j).map (fun v=>(Ef v (plS m.h.m m.h.len) (plS t n)).1)) (x0.voices.drop j)).set j [.any, .d (.sl 4 (x2.tups.map Tp.c))]))]) (mkH [(6, .box [.d (dI 0), .d (dI 0), .d (dI 0), .d (dI 0), .d (dI 0), .d (dI 0), .d (dI 0), .d (dI 0), .d (dI 0), .d (dI 0), .d (dI 0), .d (dI 0), .d (dB false), .d (dI 0), .d (dI 0), .d (dI 0), .d (dI 0), .d (dI 0), .d (dI 0), .d (.v (.string ⟨#[]⟩)), .d (.v (.slice none 0 0)), .d (.v (.slice none 0 0))]),(10, .box [.d (dI (m.h.sh t n).site), .d (dI (m.h.sh t n).num), .d (dI (m.h.sh t n).m.count), .d (dI (m.h.sh t n).m.unit), .d (dI (m.h.sh t n).m.g0), .d (dI (m.h.sh t n).m.g1), .d (dI (m.h.sh t n).m.g2), .d (dI (m.h.sh t n).m.g3), .d (dI (m.h.sh t n).m.g4), .d (dI (m.h.sh t n).m.g5), .d (dI (m.h.sh t n).len), .d (dI (m.h.sh t n).fifths), .d (dB (m.h.sh t n).start), .d (dI (m.h.sh t n).fin), .d (dI (m.h.sh t n).ends), .d (dI (m.h.sh t n).jump), .d (dI (m.h.sh t n).labels), .d (dI (m.h.sh t n).swing), .d (dI (m.h.sh t n).brk), .d (.v (.string ⟨(m.h.sh t n).reh.toArray⟩)), .own 7401, .own 7402]),(7401, .row 119 3 ((m.tempi).map Tm.c)),(7402, .tree 78 2 [7501,7502] ((mix Ce.u Ce.t ((m.cells.take k).map (Cu (plS m.h.m m.h.len) (plS t n))) (m.cells.drop k)).set k [.own 7501, .own 7502])),(7501, .row 84 2 ((x0.clefs).map Cf.c)),(7502, .tree 82 2 [] ((mix Vo.u Vo.t ((x0.voices.take j).map (fun v=>(Ef v (plS m.h.m m.h.len) (plS t n)).1)) (x0.voices.drop j)).set j [.d (.sl 13 (((Ef x2 (plS m.h.m m.h.len) (plS t n)).1).evs.map Ev.c)), .d (.sl 4 (((Ef x2 (plS m.h.m m.h.len) (plS t n)).1).tups.map Tp.c))]))]) (by kernel_rfl) (by kernel_rfl) (by kernel_rfl) (by kernel_rfl)<|?_
 refine ChFK.fr R R (CStep.pure (Ao R (by conv=>lhs;whnf))) (CStep.pure (Ao R (by conv=>lhs;whnf))) (by exact rfl)<|?_
 refine ChFK.fr R R (CStep.pure (H5 R R)) (CStep.pure (H5 R R)) (by exact rfl)<|ChFK.fr R R (CStep.pure (Aa R R Ea)) (CStep.pure (Aa R R Ea)) (by exact rfl)<|?_
 refine ChFK.fr R R (CStep.pure (Ae (s':= .own 7502) (I9 R R Hs R (Di (F0 hx0)) R) R)) (CStep.pure (Ae (s':= .own 7502) (I9 R R Hs R (Di (F0 hx0)) R) R)) (by exact rfl)<|ChFK.fr R R (CStep.pure (Ao R (by conv=>lhs;whnf))) (CStep.pure (Ao R (by conv=>lhs;whnf))) (by exact rfl)<|?_
 refine ChFK.bf R (CStep.pure (Ao R (by conv=>lhs;whnf))) (by conv=>lhs;whnf)<|?_
 refine ChFK.bf R (CStep.pure (H5 R R)) (by conv=>lhs;whnf)<|?_
 refine ChFK.bf R (CStep.pure (Aa R R Ea)) (by conv=>lhs;whnf)<|?_
 refine ChFK.bf R (CStep.pure (Ae (s':= .own 7502) (I9 R R Hs R (Di (F0 hx0)) R) R)) (by conv=>lhs;whnf)<|?_
 refine ChFK.bf R (CStep.pure (Ao R (by conv=>lhs;whnf))) (by conv=>lhs;whnf)<|?_
 refine ChFK.bf R (CStep.pure (Ov R R R (R) R O8 (Aid (Y6 hk2a)))) (by conv=>lhs;whnf)<|?_
 refine ChFK.bf R (CStep.pure (Ae (s':=(.agg [.own 7601, .d (.sl 4 (x2.tups.map Tp.c))])) (Yy R R Aw R (Di (F0 hx2)) lb) (by kernel_rfl))) (by conv=>lhs;whnf)<|?_
 refine ChFK.bf R (CStep.pure (Ae (s':= .d (.agg (Pl.c (plS m.h.m m.h.len)))) (Bf R R Gi lb) (by kernel_rfl))) (by conv=>lhs;whnf)<|?_
 refine ChFK.bf R (CStep.pure (Ae (s':= .d (.agg (Pl.c (plS t n)))) (Bf R R Gi lb) (by kernel_rfl))) (by conv=>lhs;whnf)<|?_
 refine ChFK.mu R (Aso 900001 [7601,5003,5004,5005,5006,5029,900002,7001] (.d (.tup [.agg (Vo.c (Ef x2 (plS m.h.m m.h.len) (plS t n)).1),dI (Ef x2 (plS m.h.m m.h.len) (plS t n)).2])) (mkH [(6, .box [.d (dI 0), .d (dI 0), .d (dI 0), .d (dI 0), .d (dI 0), .d (dI 0), .d (dI 0), .d (dI 0), .d (dI 0), .d (dI 0), .d (dI 0), .d (dI 0), .d (dB false), .d (dI 0), .d (dI 0), .d (dI 0), .d (dI 0), .d (dI 0), .d (dI 0), .d (.v (.string ⟨#[]⟩)), .d (.v (.slice none 0 0)), .d (.v (.slice none 0 0))]),(10, .box [.d (dI (m.h.sh t n).site), .d (dI (m.h.sh t n).num), .d (dI (m.h.sh t n).m.count), .d (dI (m.h.sh t n).m.unit), .d (dI (m.h.sh t n).m.g0), .d (dI (m.h.sh t n).m.g1), .d (dI (m.h.sh t n).m.g2), .d (dI (m.h.sh t n).m.g3), .d (dI (m.h.sh t n).m.g4), .d (dI (m.h.sh t n).m.g5), .d (dI (m.h.sh t n).len), .d (dI (m.h.sh t n).fifths), .d (dB (m.h.sh t n).start), .d (dI (m.h.sh t n).fin), .d (dI (m.h.sh t n).ends), .d (dI (m.h.sh t n).jump), .d (dI (m.h.sh t n).labels), .d (dI (m.h.sh t n).swing), .d (dI (m.h.sh t n).brk), .d (.v (.string ⟨(m.h.sh t n).reh.toArray⟩)), .own 7401, .own 7402]),(7401, .row 119 3 ((m.tempi).map Tm.c)),(7402, .tree 78 2 [7501,7502] ((mix Ce.u Ce.t ((m.cells.take k).map (Cu (plS m.h.m m.h.len) (plS t n))) (m.cells.drop k)).set k [.own 7501, .own 7502])),(7501, .row 84 2 ((x0.clefs).map Cf.c)),(7502, .tree 82 2 [] ((mix Vo.u Vo.t ((x0.voices.take j).map (fun v=>(Ef v (plS m.h.m m.h.len) (plS t n)).1)) (x0.voices.drop j)).set j [.any, .d (.sl 4 (x2.tups.map Tp.c))]))]) R .d Adr Tryz.func63 R R lb (fun u1 fp1=> ?_)) ?_
 refine Akx (i:=7502) (k:=j) (m:=0) (l':=(mix Vo.u Vo.t ((x0.voices.take j).map (fun v=>(Ef v (plS m.h.m m.h.len) (plS t n)).1)) (x0.voices.drop j)).set j [.any, .d (.sl 4 (x2.tups.map Tp.c))]) [] R (Di (F0 hx2)) R (List.set_set ..) (Ee (Rd [] _ _) (Gn (R) (R)) _)<|zr<|XL.step R (At 5003 (l:= [.own 7601, .d (.sl 4 (x2.tups.map Tp.c))]) R R (by kernel_rfl))<|?_
 refine XL.step R (At 5004 (l:= [.d (dI (plS m.h.m m.h.len).m.count), .d (dI (plS m.h.m m.h.len).m.unit), .d (dI (plS m.h.m m.h.len).m.g0), .d (dI (plS m.h.m m.h.len).m.g1), .d (dI (plS m.h.m m.h.len).m.g2), .d (dI (plS m.h.m m.h.len).m.g3), .d (dI (plS m.h.m m.h.len).m.g4), .d (dI (plS m.h.m m.h.len).m.g5), .d (dI (plS m.h.m m.h.len).off), .d (dI (plS m.h.m m.h.len).len)]) R R (by kernel_rfl))<|?_
 refine XL.step R (At 5005 (l:= [.d (dI (plS t n).m.count), .d (dI (plS t n).m.unit), .d (dI (plS t n).m.g0), .d (dI (plS t n).m.g1), .d (dI (plS t n).m.g2), .d (dI (plS t n).m.g3), .d (dI (plS t n).m.g4), .d (dI (plS t n).m.g5), .d (dI (plS t n).off), .d (dI (plS t n).len)]) R R (by kernel_rfl))<|?_
 refine XL.step R (Ax 5006 (l:= [.d (.v (.slice none 0 0)), .d (.v (.slice none 0 0))]) R Bh (by kernel_rfl))<|za R R<|znr<|za R R<|zn<|zs<|Ah<|zr<|zp (Ac (Ad R R Aw R lb))<|?_
 refine XL.inl 900002 [(3, .ptr 5003 0 0),(4, .ptr 5004 0 0),(5, .ptr 5005 0 0),(6, .ptr 5006 0 0),(7, .d (dI 0)),(8, .d (dI 0))] R R .d R1 Tryz.func56 R R lb (by simp only [List.forall_mem_cons];exact ⟨⟨Nat.le_of_ble_eq_true rfl,rfl⟩,⟨⟨Nat.le_of_ble_eq_true rfl,rfl⟩,⟨⟨Nat.le_of_ble_eq_true rfl,rfl⟩,⟨⟨Nat.le_of_ble_eq_true rfl,rfl⟩,⟨⟨Nat.le_of_ble_eq_true rfl,rfl⟩,⟨⟨Nat.le_of_ble_eq_true rfl,rfl⟩,fun p hp=>(by cases hp)⟩⟩⟩⟩⟩⟩) fun u2=>?_
 refine zr<|XL.step R (At 7001 (l:= [.own 7601, .d (.sl 4 (x2.tups.map Tp.c))]) R R (by kernel_rfl))<|za R R<|znr<|zp (Aa R R Bv)<|zp (Ab R R C9 R R)<|zp (B4 R R R Tryz.underlying79)<|zp (Bb R R R)<|za R R<|zn<|zt<|?_
 refine (D1 (l:= [(3, .ptr 5003 0 0),(4, .ptr 5004 0 0),(5, .ptr 5005 0 0),(6, .ptr 5006 0 0),(7, .d (dI 0)),(8, .d (dI 0))]) (by kernel_rfl) (rs1 R (RV.tmp R R)) ?_).2
 refine zp (Fz R R)<|zm R R<|?_
 refine XL.dec 35 R (fun g35i=> ?_) (fun g35i=> ?_)
 refine zk 5 R<|zq R R R<|zm R R<|zk 12 R<|zq R R R<|za R R<|zn<|A0 (by kernel_rfl) R<|zr<|XL.freeze (i:=7601) R<|zp (Ae (s':= .d (.agg [.sl 13 (x2.evs.map Ev.c), .sl 4 (x2.tups.map Tp.c)])) (Ac (Ad R R Aw R lb)) (by kernel_rfl))<|XL.step R (Af (l':= [.d (.sl 13 (x2.evs.map Ev.c)), .d (.sl 4 (x2.tups.map Tp.c))]) R R R R Bq R lb (by kernel_rfl))<|za R R<|zn<|?_
 refine zt<|?_
 exact Ka R (by repeat (first|exact GL.z|refine GL.k ?_ rfl|refine GL.f ?_ rfl|refine GL.p ?_ rfl)) (J2 (rs2 R (RV.cells R R R Aw lb R) (RV.tmp R R)) (congrArg S.d (Mx (Ams (by unfold Vo.same;omega))))) (gz ⟨R,R,R,R,R,R,trivial⟩)
 refine zp (Aa R R Cv)<|zp (Ab R R Ai R R)<|zp (Aa R R Cv)<|zp (Ab R R Ai R R)<|zp (A8 R R R)<|zq R R R<|zm R R<|?_
 refine XL.dec 42 R (fun g42i=> ?_) (fun g42i=> ?_)
 refine zk 12 R<|zq R R R<|za R R<|zn<|A0 (by kernel_rfl) R<|zr<|XL.freeze (i:=7601) R<|zp (Ae (s':= .d (.agg [.sl 13 (x2.evs.map Ev.c), .sl 4 (x2.tups.map Tp.c)])) (Ac (Ad R R Aw R lb)) (by kernel_rfl))<|XL.step R (Af (l':= [.d (.sl 13 (x2.evs.map Ev.c)), .d (.sl 4 (x2.tups.map Tp.c))]) R R R R Bq R lb (by kernel_rfl))<|za R R<|zn<|zt<|?_
 exact Ka R (by repeat (first|exact GL.z|refine GL.k ?_ rfl|refine GL.f ?_ rfl|refine GL.p ?_ rfl)) (J2 (rs2 R (RV.cells R R R Aw lb R) (RV.tmp R R)) (congrArg S.d (Mx (Ams (by unfold Vo.same;omega))))) (gz ⟨R,R,R,R,R,R,trivial⟩)
 refine zp (Aa R R Bv)<|zp (Ab R R C9 R R)<|zp (B4 R R R Tryz.underlying79)<|zp (A8 R R R)<|zm R R<|?_
 refine XL.dec 47 R (fun g47i=> ?_) (fun g47i=> ?_)
 obtain ⟨e0,he0⟩:∃e,x2.evs[0]? =some e:=Az (by omega)
 have hwh:=Kj he0
 refine zp (Aa R R Bv)<|zp (Ab R R C9 R R)<|zp (Ct R R R ((R:(0:Int)=((0:Nat):Int))) R Hv (by first|omega|(simp only [List.length_map];omega)))<|zp (Aa R R Dk)<|zp (It R R Ai R (Dc he0) R)<|zp (A8 R R R)<|zq R R R<|zq R R R<|za R R<|zn<|?_
 refine zd R (fun c31i=> ?_) (fun c31i=> ?_)
 refine zr<|XL.freeze (i:=7601) R<|zp (Ae (s':= .d (.agg [.sl 13 (x2.evs.map Ev.c), .sl 4 (x2.tups.map Tp.c)])) (Ac (Ad R R Aw R lb)) (by kernel_rfl))<|XL.step R (Af (l':= [.d (.sl 13 (x2.evs.map Ev.c)), .d (.sl 4 (x2.tups.map Tp.c))]) R R R R Bq R lb (by kernel_rfl))<|za R R<|zn<|zt<|?_
 exact Ka R (by repeat (first|exact GL.z|refine GL.k ?_ rfl|refine GL.f ?_ rfl|refine GL.p ?_ rfl)) (J2 (rs2 R (RV.cells R R R Aw lb R) (RV.tmp R R)) (congrArg S.d (Mx (Ams (.inr (.inr ⟨by omega,hwh.2 (by omega)⟩)))))) (gz ⟨rfl,rfl,rfl,rfl,rfl,rfl,trivial⟩)
 refine zr<|zp (Aa R R Cv)<|zp (Ab R R Ai R R)<|zp (Aa R R Cv)<|zp (Ab R R Ai R R)<|zp (Au R R R)<|za R R<|zn<|?_
 refine zd R (fun c57i=> ?_) (fun c57i=> ?_)
 refine Ag (by kernel_rfl)<|XL.freeze (i:=7601) R<|zp (Ae (s':= .d (.agg (Vo.c x2))) (Ac (Ad R R Aw R lb)) (by kernel_rfl))<|zp (Ae (s':= .d (.agg (Pl.c (plS m.h.m m.h.len)))) (Ac (Ad R R Gi R lb)) (by kernel_rfl))<|zp (Aa R R Cv)<|zp (Ab R R Ai R R)<|XL.call1 R R (Akf _ _ _ _ (by assumption) (by assumption)) R<|?_
 refine zm R R<|zp (As R R R)<|zp (As R R R)<|XL.step R (Af (l':= [.d (.sl 13 (((Ei x2 (plS m.h.m m.h.len) 0 ((plS t n).len)).1).evs.map Ev.c)), .d (.sl 4 (((Ei x2 (plS m.h.m m.h.len) 0 ((plS t n).len)).1).tups.map Tp.c))]) R R R R Bq R lb (by kernel_rfl))<|za R R<|zn<|zs<|zr<|zm R R<|zp (A5 R R R)<|zn<|?_
 refine zd R (fun c72i=> ?_) (fun c72i=> ?_)
 refine zr<|zp (Ae (s':= .d (.agg [.v (.slice none 0 0), .v (.slice none 0 0)])) (Ac (Ba R C0 Bh R)) (by kernel_rfl))<|zm R R<|XL.step R (Af (l':= [.d (.v (.slice none 0 0)), .d (.v (.slice none 0 0))]) R R R R Bq R lb (by kernel_rfl))<|za R R<|zn<|zt<|?_
 exact Ka R (by repeat (first|exact GL.z|refine GL.k ?_ rfl|refine GL.f ?_ rfl|refine GL.p ?_ rfl)) (J2 (rs2 R (RV.sub (RV.cells R R R Aw lb R) (.agg (.cons (.nil 13) (.cons (.nil 4) (.nil))))) (RV.tmp R R)) (congrArg S.d (Mx (Arw (by unfold Vo.same;rw [hwh];omega) c57i c72i)))) (gz ⟨R,R,R,R,R,R,trivial⟩)
 refine zi<|zs<|?_
 have hEc:=(Z4 (v:=x2) (p:=(plS m.h.m m.h.len)) (a:=0) (b:=(plS t n).len) (by omega) hfv).1
 refine Cp 5 [] (by kernel_rfl) (by kernel_rfl) (by kernel_rfl) (by kernel_rfl) (by decide)<|yp (Ae (s':= .d (.agg (Vo.c (Ei x2 (plS m.h.m m.h.len) 0 ((plS t n).len)).1))) (Ac (Ad R R Aw R lb)) (by kernel_rfl))<|yp (Ae (s':= .d (.agg (Vo.c (Ei x2 (plS m.h.m m.h.len) 0 ((plS t n).len)).1))) (Ac (Ad R R Aw R lb)) (by kernel_rfl))<|?_
 refine yp (Aa R R Cv)<|yp (Ab R R Ai R R)<|ChK.cons R (CStep.call R (M7 _ _ (by assumption)) R)<|?_
 refine ChK.nil ⟨by kernel_rfl, ?_⟩
 refine XL.step R (Af (l':= [.d (.sl 13 (((Ei x2 (plS m.h.m m.h.len) 0 ((plS t n).len)).1).evs.map Ev.c)), .d (.sl 4 (((Ei x2 (plS m.h.m m.h.len) 0 ((plS t n).len)).1).tups.map Tp.c))]) R R R R Bq R lb (by kernel_rfl))<|za R R<|zn<|zt<|?_
 exact Ka R (by repeat (first|exact GL.z|refine GL.k ?_ rfl|refine GL.f ?_ rfl|refine GL.p ?_ rfl)) (J2 (rs2 R (RV.cells R R R Aw lb R) (RV.tmp R R)) (congrArg S.d (Mx (Arv (by unfold Vo.same;rw [hwh];omega) c57i c72i)))) (gz ⟨R,R,R,R,R,R,trivial⟩)
 refine zr<|za R R<|zn<|zs<|?_
 have hrl:=Wb (plS t n).m ((plS t n).off+(plS m.h.m m.h.len).len) ((plS t n).off+(plS t n).len)
 refine Ag (by kernel_rfl)<|zp (Aa R R Mz)<|zp (Ae (s':= .d (.agg (Me.c (plS t n).m))) (Ac (Ad R R Bn R lb)) (by kernel_rfl))<|zp (Aa R R Gs)<|zp (Ab R R Ai R R)<|zp (Aa R R Cv)<|zp (Ab R R Ai R R)<|zp (Al R R R (by omega) (by omega))<|zp (Aa R R Gs)<|zp (Ab R R Ai R R)<|?_
 refine zp (Aa R R Cv)<|zp (Ab R R Ai R R)<|zp (Al R R R (by omega) (by omega))<|XL.call1 R R (Ys _ _ _) R<|zm R R<|zp (As R R R)<|zp (As R R R)<|za R R<|za R R<|zng<|zp (Aa R R Bv)<|zp (Ab R R C9 R R)<|zm R R<|XL.step R (A7 R Gh (.own R) (Src.sl (by omega)) (by unfold maxLen;simp;omega) (by simp;omega))<|?_
 refine XL.rowq (i:=7601) (l':=(x2.evs++H1 (plS t n).m ((plS t n).off+(plS m.h.m m.h.len).len) ((plS t n).off+(plS t n).len)).map Ev.c) R (Rf)<|zp (Aa R R Bv)<|XL.step R (Af (l':= [.own 7601, .d (.sl 4 (x2.tups.map Tp.c))]) R R R R Q7 R lb (by kernel_rfl))<|zn<|zs<|zr<|zm R R<|zp (A5 R R R)<|zn<|?_
 refine zd R (fun c72i=> ?_) (fun c72i=> ?_)
 refine zr<|zp (Ae (s':= .d (.agg [.v (.slice none 0 0), .v (.slice none 0 0)])) (Ac (Ba R C0 Bh R)) (by kernel_rfl))<|zm R R<|XL.step R (Af (l':= [.d (.v (.slice none 0 0)), .d (.v (.slice none 0 0))]) R R R R Bq R lb (by kernel_rfl))<|za R R<|zn<|zt<|?_
 exact Ka R (by repeat (first|exact GL.z|refine GL.k ?_ rfl|refine GL.f ?_ rfl|refine GL.p ?_ rfl)) (J2 (rs2 R (RV.sub (RV.cells R R R Aw lb R) (.agg (.cons (.nil 13) (.cons (.nil 4) (.nil))))) (RV.tmp R R)) (congrArg S.d (Mx (Aru (by unfold Vo.same;rw [hwh];omega) c57i c72i)))) (gz ⟨R,R,R,R,R,R,trivial⟩)
 refine zi<|zs<|?_
 have hEc:=Afj hEv (Wc (plS t n).m ((plS t n).off+(plS m.h.m m.h.len).len) ((plS t n).off+(plS t n).len))
 refine Pk (i:=7601) R<|Cp 5 [] (by kernel_rfl) (by kernel_rfl) (by kernel_rfl) (by kernel_rfl) (by decide)<|yp (Ae (s':= .d (.agg (Vo.c (Lp x2 (plS m.h.m m.h.len) (plS t n))))) (Ac (Ad R R Aw R lb)) (by kernel_rfl))<|yp (Ae (s':= .d (.agg (Vo.c (Lp x2 (plS m.h.m m.h.len) (plS t n))))) (Ac (Ad R R Aw R lb)) (by kernel_rfl))<|?_
 refine yp (Aa R R Cv)<|yp (Ab R R Ai R R)<|ChK.cons R (CStep.call R (M7 _ _ (by assumption)) R)<|?_
 refine ChK.nil ⟨by kernel_rfl, ?_⟩
 refine XL.step R (Af (l':= [.d (.sl 13 ((Lp x2 (plS m.h.m m.h.len) (plS t n)).evs.map Ev.c)), .d (.sl 4 ((Lp x2 (plS m.h.m m.h.len) (plS t n)).tups.map Tp.c))]) R R R R Bq R lb (by kernel_rfl))<|za R R<|zn<|zt<|?_
 exact Ka R (by repeat (first|exact GL.z|refine GL.k ?_ rfl|refine GL.f ?_ rfl|refine GL.p ?_ rfl)) (J2 (rs2 R (RV.cells R R R Aw lb R) (RV.tmp R R)) (congrArg S.d (Mx (Art (by unfold Vo.same;rw [hwh];omega) c57i c72i)))) (gz ⟨R,R,R,R,R,R,trivial⟩)
 refine zk 6 R<|zq R R R<|zq R R R<|za R R<|zn<|A3 (by kernel_rfl) R<|zr<|zp (Aa R R Cv)<|zp (Ab R R Ai R R)<|zp (Aa R R Cv)<|zp (Ab R R Ai R R)<|zp (Au R R R)<|za R R<|zn<|?_
 refine zd R (fun c57i=> ?_) (fun c57i=> ?_)
 refine Ag (by kernel_rfl)<|XL.freeze (i:=7601) R<|zp (Ae (s':= .d (.agg (Vo.c x2))) (Ac (Ad R R Aw R lb)) (by kernel_rfl))<|zp (Ae (s':= .d (.agg (Pl.c (plS m.h.m m.h.len)))) (Ac (Ad R R Gi R lb)) (by kernel_rfl))<|zp (Aa R R Cv)<|zp (Ab R R Ai R R)<|XL.call1 R R (Akf _ _ _ _ (by assumption) (by assumption)) R<|?_
 refine zm R R<|zp (As R R R)<|zp (As R R R)<|XL.step R (Af (l':= [.d (.sl 13 (((Ei x2 (plS m.h.m m.h.len) 0 ((plS t n).len)).1).evs.map Ev.c)), .d (.sl 4 (((Ei x2 (plS m.h.m m.h.len) 0 ((plS t n).len)).1).tups.map Tp.c))]) R R R R Bq R lb (by kernel_rfl))<|za R R<|zn<|zs<|zr<|zm R R<|zp (A5 R R R)<|zn<|?_
 refine zd R (fun c72i=> ?_) (fun c72i=> ?_)
 refine zr<|zp (Ae (s':= .d (.agg [.v (.slice none 0 0), .v (.slice none 0 0)])) (Ac (Ba R C0 Bh R)) (by kernel_rfl))<|zm R R<|XL.step R (Af (l':= [.d (.v (.slice none 0 0)), .d (.v (.slice none 0 0))]) R R R R Bq R lb (by kernel_rfl))<|za R R<|zn<|zt<|?_
 exact Ka R (by repeat (first|exact GL.z|refine GL.k ?_ rfl|refine GL.f ?_ rfl|refine GL.p ?_ rfl)) (J2 (rs2 R (RV.sub (RV.cells R R R Aw lb R) (.agg (.cons (.nil 13) (.cons (.nil 4) (.nil))))) (RV.tmp R R)) (congrArg S.d (Mx (Arw (by unfold Vo.same;omega) c57i c72i)))) (gz ⟨R,R,R,R,R,R,trivial⟩)
 refine zi<|zs<|?_
 have hEc:=(Z4 (v:=x2) (p:=(plS m.h.m m.h.len)) (a:=0) (b:=(plS t n).len) (by omega) hfv).1
 refine Cp 5 [] (by kernel_rfl) (by kernel_rfl) (by kernel_rfl) (by kernel_rfl) (by decide)<|yp (Ae (s':= .d (.agg (Vo.c (Ei x2 (plS m.h.m m.h.len) 0 ((plS t n).len)).1))) (Ac (Ad R R Aw R lb)) (by kernel_rfl))<|yp (Ae (s':= .d (.agg (Vo.c (Ei x2 (plS m.h.m m.h.len) 0 ((plS t n).len)).1))) (Ac (Ad R R Aw R lb)) (by kernel_rfl))<|?_
 refine yp (Aa R R Cv)<|yp (Ab R R Ai R R)<|ChK.cons R (CStep.call R (M7 _ _ (by assumption)) R)<|?_
 refine ChK.nil ⟨by kernel_rfl, ?_⟩
 refine XL.step R (Af (l':= [.d (.sl 13 (((Ei x2 (plS m.h.m m.h.len) 0 ((plS t n).len)).1).evs.map Ev.c)), .d (.sl 4 (((Ei x2 (plS m.h.m m.h.len) 0 ((plS t n).len)).1).tups.map Tp.c))]) R R R R Bq R lb (by kernel_rfl))<|za R R<|zn<|zt<|?_
 exact Ka R (by repeat (first|exact GL.z|refine GL.k ?_ rfl|refine GL.f ?_ rfl|refine GL.p ?_ rfl)) (J2 (rs2 R (RV.cells R R R Aw lb R) (RV.tmp R R)) (congrArg S.d (Mx (Arv (by unfold Vo.same;omega) c57i c72i)))) (gz ⟨R,R,R,R,R,R,trivial⟩)
 refine zr<|za R R<|zn<|zs<|?_
 have hrl:=Wb (plS t n).m ((plS t n).off+(plS m.h.m m.h.len).len) ((plS t n).off+(plS t n).len)
 refine Ag (by kernel_rfl)<|zp (Aa R R Mz)<|zp (Ae (s':= .d (.agg (Me.c (plS t n).m))) (Ac (Ad R R Bn R lb)) (by kernel_rfl))<|zp (Aa R R Gs)<|zp (Ab R R Ai R R)<|zp (Aa R R Cv)<|zp (Ab R R Ai R R)<|zp (Al R R R (by omega) (by omega))<|zp (Aa R R Gs)<|zp (Ab R R Ai R R)<|?_
 refine zp (Aa R R Cv)<|zp (Ab R R Ai R R)<|zp (Al R R R (by omega) (by omega))<|XL.call1 R R (Ys _ _ _) R<|zm R R<|zp (As R R R)<|zp (As R R R)<|za R R<|za R R<|zng<|zp (Aa R R Bv)<|zp (Ab R R C9 R R)<|zm R R<|XL.step R (A7 R Gh (.own R) (Src.sl (by omega)) (by unfold maxLen;simp;omega) (by simp;omega))<|?_
 refine XL.rowq (i:=7601) (l':=(x2.evs++H1 (plS t n).m ((plS t n).off+(plS m.h.m m.h.len).len) ((plS t n).off+(plS t n).len)).map Ev.c) R (Rf)<|zp (Aa R R Bv)<|XL.step R (Af (l':= [.own 7601, .d (.sl 4 (x2.tups.map Tp.c))]) R R R R Q7 R lb (by kernel_rfl))<|zn<|zs<|zr<|zm R R<|zp (A5 R R R)<|zn<|?_
 refine zd R (fun c72i=> ?_) (fun c72i=> ?_)
 refine zr<|zp (Ae (s':= .d (.agg [.v (.slice none 0 0), .v (.slice none 0 0)])) (Ac (Ba R C0 Bh R)) (by kernel_rfl))<|zm R R<|XL.step R (Af (l':= [.d (.v (.slice none 0 0)), .d (.v (.slice none 0 0))]) R R R R Bq R lb (by kernel_rfl))<|za R R<|zn<|zt<|?_
 exact Ka R (by repeat (first|exact GL.z|refine GL.k ?_ rfl|refine GL.f ?_ rfl|refine GL.p ?_ rfl)) (J2 (rs2 R (RV.sub (RV.cells R R R Aw lb R) (.agg (.cons (.nil 13) (.cons (.nil 4) (.nil))))) (RV.tmp R R)) (congrArg S.d (Mx (Aru (by unfold Vo.same;omega) c57i c72i)))) (gz ⟨R,R,R,R,R,R,trivial⟩)
 refine zi<|zs<|?_
 have hEc:=Afj hEv (Wc (plS t n).m ((plS t n).off+(plS m.h.m m.h.len).len) ((plS t n).off+(plS t n).len))
 refine Pk (i:=7601) R<|Cp 5 [] (by kernel_rfl) (by kernel_rfl) (by kernel_rfl) (by kernel_rfl) (by decide)<|yp (Ae (s':= .d (.agg (Vo.c (Lp x2 (plS m.h.m m.h.len) (plS t n))))) (Ac (Ad R R Aw R lb)) (by kernel_rfl))<|yp (Ae (s':= .d (.agg (Vo.c (Lp x2 (plS m.h.m m.h.len) (plS t n))))) (Ac (Ad R R Aw R lb)) (by kernel_rfl))<|?_
 refine yp (Aa R R Cv)<|yp (Ab R R Ai R R)<|ChK.cons R (CStep.call R (M7 _ _ (by assumption)) R)<|?_
 refine ChK.nil ⟨by kernel_rfl, ?_⟩
 refine XL.step R (Af (l':= [.d (.sl 13 ((Lp x2 (plS m.h.m m.h.len) (plS t n)).evs.map Ev.c)), .d (.sl 4 ((Lp x2 (plS m.h.m m.h.len) (plS t n)).tups.map Tp.c))]) R R R R Bq R lb (by kernel_rfl))<|za R R<|zn<|zt<|?_
 exact Ka R (by repeat (first|exact GL.z|refine GL.k ?_ rfl|refine GL.f ?_ rfl|refine GL.p ?_ rfl)) (J2 (rs2 R (RV.cells R R R Aw lb R) (RV.tmp R R)) (congrArg S.d (Mx (Art (by unfold Vo.same;omega) c57i c72i)))) (gz ⟨R,R,R,R,R,R,trivial⟩)
 refine ChFK.af R (CStep.pure (Ao R (by conv=>lhs;whnf)))<|?_
 refine ChFK.af R (CStep.pure (As R R R))<|ChFK.fl R (CStep.pure (As R R R)) (CStep.pure (As R R R))<|ChFK.af R (CStep.pure (Ov R R R (R) R O8 (Aid (Y6 hk2a))))<|?_
 refine ChFK.st R (Zu [] (l':=(mix Vo.u Vo.t ((x0.voices.take j).map (fun v=>(Ef v (plS m.h.m m.h.len) (plS t n)).1)) (x0.voices.drop j)).set j [.d (.sl 13 (((Ef x2 (plS m.h.m m.h.len) (plS t n)).1).evs.map Ev.c)), .d (.sl 4 (((Ef x2 (plS m.h.m m.h.len) (plS t n)).1).tups.map Tp.c))]) R R R (Di (F0 hx2)) R Bq R lb R R (List.set_set ..) (gz ⟨R,R,R,R,R,R,trivial⟩))<|?_
 refine ChFK.nil ⟨⟨by kernel_rfl,by kernel_rfl,by kernel_rfl⟩, ?_⟩
 refine XL.rowqT (i:=7502) (l':=mix Vo.u Vo.t ((x0.voices.take (j+1)).map (fun v=>(Ef v (plS m.h.m m.h.len) (plS t n)).1)) (x0.voices.drop (j+1))) [] R (Sm hx2) (Rd [] _ _)<|za R R<|znr<|zm R R<|zp (A5 R R R)<|zn<|?_
 refine zd R (fun c83=> ?_) (fun c83=> ?_)
 refine zr<|?_
 refine zp (Ae (s':= .d (.agg [dI 0,dI 0,dI 0,dI 0,dI 0,dI 0,dI 0,dI 0,dI 0,dI 0,dI 0,dI 0,dB false,dI 0,dI 0,dI 0,dI 0,dI 0,dI 0, .v (.string ⟨#[]⟩), .v (.slice none 0 0), .v (.slice none 0 0)])) (Ac (Ba (r:= [.d (dI 0), .d (dI 0), .d (dI 0), .d (dI 0), .d (dI 0), .d (dI 0), .d (dI 0), .d (dI 0), .d (dI 0), .d (dI 0), .d (dI 0), .d (dI 0), .d (dB false), .d (dI 0), .d (dI 0), .d (dI 0), .d (dI 0), .d (dI 0), .d (dI 0), .d (.v (.string ⟨#[]⟩)), .d (.v (.slice none 0 0)), .d (.v (.slice none 0 0))]) R Pu F9 (by kernel_rfl))) (by kernel_rfl))<|?_
 refine zm R R<|XL.step R (Af (l':= [.d (dI 0), .d (dI 0), .d (dI 0), .d (dI 0), .d (dI 0), .d (dI 0), .d (dI 0), .d (dI 0), .d (dI 0), .d (dI 0), .d (dI 0), .d (dI 0), .d (dB false), .d (dI 0), .d (dI 0), .d (dI 0), .d (dI 0), .d (dI 0), .d (dI 0), .d (.v (.string ⟨#[]⟩)), .d (.v (.slice none 0 0)), .d (.v (.slice none 0 0))]) R R R R Gu R lb (by kernel_rfl))<|za R R<|zn<|zt<|?_
 exact A6 R (RV.sub (RV.cells R R R Cj lb R) (.agg (.cons (.same R) (.cons (.same R) (.cons (.same R) (.cons (.same R) (.cons (.same R) (.cons (.same R) (.cons (.same R) (.cons (.same R) (.cons (.same R) (.cons (.same R) (.cons (.same R) (.cons (.same R) (.cons (.same R) (.cons (.same R) (.cons (.same R) (.cons (.same R) (.cons (.same R) (.cons (.same R) (.cons (.same R) (.cons (.same R) (.cons (.nil 3) (.cons (.nil 2) (.nil))))))))))))))))))))))))) (RV.tmp R R) (Vs (At0 c21 c33 (by first|exact hgo.symm.trans ((Am0 hx0 (by rw [←hgv,Zs hx2 (by omega)];omega)).trans (by rw [←hgv,Zs hx2 (by omega)]))) (by omega)))
 refine zi<|Ag (by kernel_rfl)<|zp (Al R R R (by omega) (by omega))<|zm R R<|zn<|?_
 exact An (j+1) (⟨by omega,by rw [←Amz hx2 (by omega)];exact hgv⟩) (by omega) (fz ⟨sr,sr,sr,sr,sr,sr,sr,sr,sr,trivial⟩) (gz ⟨rfl,rfl,rfl,rfl,rfl,rfl,trivial⟩)
 have hk2b:j=x0.voices.length:=by omega
 refine Av<|Afw (i:=7502) R (Apd _ _) (by rw [Ari,hk2b,List.take_length,List.drop_length,List.append_nil])<|?_
 refine X0 (i:=7402) (l':=(mix Ce.u Ce.t ((m.cells.take k).map (Cu (plS m.h.m m.h.len) (plS t n))) (m.cells.drop k)).set k [.own 7501, .d (.sl 2 (((Cu (plS m.h.m m.h.len) (plS t n)) x0).voices.map Vo.c))]) [7501] R (Uf (Iu [] _ _) R) (Ee (Iu [] _ _) (Gn (R) (R)) _)<|Ag (by kernel_rfl)<|zp (Ao R (by conv=>lhs;whnf))<|?_
 refine zp (Ao R (by conv=>lhs;whnf))<|?_
 refine zp (H5 R R)<|zp (Aa R R Ih)<|zp (Ae (s':= .own 7501) (I9 R R T3 R (Di (F0 hx0)) R) R)<|?_
 refine XL.blurT (i:=7402) (k:=k) (m:=0) (l':=(mix Ce.u Ce.t ((m.cells.take k).map (Cu (plS m.h.m m.h.len) (plS t n))) (m.cells.drop k)).set k [.any, .d (.sl 2 (((Cu (plS m.h.m m.h.len) (plS t n)) x0).voices.map Vo.c))]) [] R (Di (F0 hx0)) R (List.set_set ..) (Ee (Iu [] _ _) (Gn (R) (R)) _)<|zp (Ow (pd:= []) (cd:= [_]) R R R)<|?_
 refine XL.inl 900003 [(6, .ptr 6 0 0),(8, .d (.pt (Pl.c (plS m.h.m m.h.len)))),(10, .ptr 10 0 0),(11, .d (.pt (Pl.c (plS t n)))),(47, .d (dI m.cells.length)),(48, .d (dI k)),(87, .ptr 7402 k 0)] R R .d Adq Tryz.func64 R R lb (by simp only [List.forall_mem_cons];exact ⟨⟨Nat.le_of_ble_eq_true rfl,rfl⟩,⟨⟨Nat.le_of_ble_eq_true rfl,rfl⟩,⟨⟨Nat.le_of_ble_eq_true rfl,rfl⟩,⟨⟨Nat.le_of_ble_eq_true rfl,rfl⟩,⟨⟨Nat.le_of_ble_eq_true rfl,rfl⟩,⟨⟨Nat.le_of_ble_eq_true rfl,rfl⟩,⟨⟨Nat.le_of_ble_eq_true rfl,rfl⟩,fun p hp=>(by cases hp)⟩⟩⟩⟩⟩⟩⟩) fun u3=>?_
 refine zr<|za R R<|znr<|zp (Ao R (by conv=>lhs;whnf))<|?_
 refine zm R R<|XL.inl 900004 [(0, .own 7501),(1, .d (.fn 65 [] [.pt (Pl.c (plS t n))])),(4, .d (.v (.slice none 0 0)))] R R .d Ada Tryz.func99 R R lb (by simp only [List.forall_mem_cons];exact ⟨⟨Nat.le_of_ble_eq_true rfl,rfl⟩,⟨⟨Nat.le_of_ble_eq_true rfl,rfl⟩,⟨⟨Nat.le_of_ble_eq_true rfl,rfl⟩,fun p hp=>(by cases hp)⟩⟩⟩) fun u4=>zr<|za R R<|zn<|zs<|zr<|?_
 refine zp (Ao R (by conv=>lhs;whnf))<|?_
 refine zp (B4 R R R Tryz.underlying75)<|zm R R<|zn<|Ah<|?_
 refine A4 (α:=Nat) (fun q=>q≤(x0.clefs).length∧((x0.clefs).take q).filter (cfK (plS t n).len)=(x0.clefs).take q) (fun q=>mkF [(0, .own 7501),(1, .d (.fn 65 [] [.pt (Pl.c (plS t n))])),(7, .d (dI x0.clefs.length)),(8, .d (dI q))]) (fun q=>mkH [(6, .box [.d (dI 0), .d (dI 0), .d (dI 0), .d (dI 0), .d (dI 0), .d (dI 0), .d (dI 0), .d (dI 0), .d (dI 0), .d (dI 0), .d (dI 0), .d (dI 0), .d (dB false), .d (dI 0), .d (dI 0), .d (dI 0), .d (dI 0), .d (dI 0), .d (dI 0), .d (.v (.string ⟨#[]⟩)), .d (.v (.slice none 0 0)), .d (.v (.slice none 0 0))]),(10, .box [.d (dI (m.h.sh t n).site), .d (dI (m.h.sh t n).num), .d (dI (m.h.sh t n).m.count), .d (dI (m.h.sh t n).m.unit), .d (dI (m.h.sh t n).m.g0), .d (dI (m.h.sh t n).m.g1), .d (dI (m.h.sh t n).m.g2), .d (dI (m.h.sh t n).m.g3), .d (dI (m.h.sh t n).m.g4), .d (dI (m.h.sh t n).m.g5), .d (dI (m.h.sh t n).len), .d (dI (m.h.sh t n).fifths), .d (dB (m.h.sh t n).start), .d (dI (m.h.sh t n).fin), .d (dI (m.h.sh t n).ends), .d (dI (m.h.sh t n).jump), .d (dI (m.h.sh t n).labels), .d (dI (m.h.sh t n).swing), .d (dI (m.h.sh t n).brk), .d (.v (.string ⟨(m.h.sh t n).reh.toArray⟩)), .own 7401, .own 7402]),(7401, .row 119 3 ((m.tempi).map Tm.c)),(7402, .tree 78 2 [] ((mix Ce.u Ce.t ((m.cells.take k).map (Cu (plS m.h.m m.h.len) (plS t n))) (m.cells.drop k)).set k [.any, .d (.sl 2 (((Cu (plS m.h.m m.h.len) (plS t n)) x0).voices.map Vo.c))])),(7501, .row 84 2 ((x0.clefs).map Cf.c)),(900003, .ghost u3 [(6, .ptr 6 0 0),(8, .d (.pt (Pl.c (plS m.h.m m.h.len)))),(10, .ptr 10 0 0),(11, .d (.pt (Pl.c (plS t n)))),(47, .d (dI m.cells.length)),(48, .d (dI k)),(87, .ptr 7402 k 0)]),(900004, .ghost u4 [(0, .own 7501),(1, .d (.fn 65 [] [.pt (Pl.c (plS t n))])),(4, .d (.v (.slice none 0 0)))])]) (fun q=>(x0.clefs).length - q) (0) (⟨Nat.zero_le _,R⟩) ?_ ?_ ?_
 exact fz ⟨sr,sr,sr,sr,trivial⟩
 exact gz ⟨R,R,R,R,R,R,R,trivial⟩
 intro q hk0x
 obtain ⟨hk,hfk⟩:=hk0x
 refine zr<|zp (Au R R R)<|zn<|zs<|?_
 refine zd R (fun c9x=> ?_) (fun c9x=> ?_)
 obtain ⟨y,hy⟩:∃y,(x0.clefs)[q]? =some y:=Az (by omega)
 refine zi<|zs<|Ah<|zr<|zm R R<|za R R<|znr<|zm R R<|zp (Ao R (by conv=>lhs;whnf))<|?_
 refine zm R R<|zp (Ct R R R (R) R Rk (by omega))<|zp (Ae (s':= .d (.agg (Cf.c y))) (Eo R R U2 R (Dc (hy)) lb) (by kernel_rfl))<|XL.callv1 (ds:= [_]) R R R (Aff _ _) R<|zn<|?_
 refine zd R (fun c16x=> ?_) (fun c16x=> ?_)
 refine zr<|zm R R<|za R R<|zn<|zt<|?_
 refine (D1 (l:= [(0, .own 7501),(1, .d (.fn 65 [] [.pt (Pl.c (plS t n))])),(4, .d (.v (.slice none 0 0)))]) (by kernel_rfl) (rs1 R (RV.tmp R R)) ?_).2
 refine za R R<|zn<|zs<|zr<|zm R R<|zp (A8 R R R)<|zn<|?_
 refine zd R (fun c12d=> ?_) (fun c12d=> ?_)
 exfalso;omega
 refine zi<|zs<|zr<|zm R R<|zp (Al R R R (by omega) (by omega))<|za R R<|zn<|Ah<|?_
 refine A4 (α:=Nat × Nat × List Cf) (fun p=>DelG (cfK (plS t n).len) (x0.clefs) p.1 p.2.1 p.2.2) (fun p=>mkF [(0, .own 7501),(1, .d (.fn 65 [] [.pt (Pl.c (plS t n))])),(4, .d (.v (.slice none 0 0))),(5, .d (dI p.2.1)),(6, .d (dI p.1))]) (fun p=>mkH [(6, .box [.d (dI 0), .d (dI 0), .d (dI 0), .d (dI 0), .d (dI 0), .d (dI 0), .d (dI 0), .d (dI 0), .d (dI 0), .d (dI 0), .d (dI 0), .d (dI 0), .d (dB false), .d (dI 0), .d (dI 0), .d (dI 0), .d (dI 0), .d (dI 0), .d (dI 0), .d (.v (.string ⟨#[]⟩)), .d (.v (.slice none 0 0)), .d (.v (.slice none 0 0))]),(10, .box [.d (dI (m.h.sh t n).site), .d (dI (m.h.sh t n).num), .d (dI (m.h.sh t n).m.count), .d (dI (m.h.sh t n).m.unit), .d (dI (m.h.sh t n).m.g0), .d (dI (m.h.sh t n).m.g1), .d (dI (m.h.sh t n).m.g2), .d (dI (m.h.sh t n).m.g3), .d (dI (m.h.sh t n).m.g4), .d (dI (m.h.sh t n).m.g5), .d (dI (m.h.sh t n).len), .d (dI (m.h.sh t n).fifths), .d (dB (m.h.sh t n).start), .d (dI (m.h.sh t n).fin), .d (dI (m.h.sh t n).ends), .d (dI (m.h.sh t n).jump), .d (dI (m.h.sh t n).labels), .d (dI (m.h.sh t n).swing), .d (dI (m.h.sh t n).brk), .d (.v (.string ⟨(m.h.sh t n).reh.toArray⟩)), .own 7401, .own 7402]),(7401, .row 119 3 ((m.tempi).map Tm.c)),(7402, .tree 78 2 [] ((mix Ce.u Ce.t ((m.cells.take k).map (Cu (plS m.h.m m.h.len) (plS t n))) (m.cells.drop k)).set k [.any, .d (.sl 2 (((Cu (plS m.h.m m.h.len) (plS t n)) x0).voices.map Vo.c))])),(7501, .row 84 2 (p.2.2.map Cf.c)),(900003, .ghost u3 [(6, .ptr 6 0 0),(8, .d (.pt (Pl.c (plS m.h.m m.h.len)))),(10, .ptr 10 0 0),(11, .d (.pt (Pl.c (plS t n)))),(47, .d (dI m.cells.length)),(48, .d (dI k)),(87, .ptr 7402 k 0)])]) (fun p=>(x0.clefs).length - p.1) ((q+1,q,x0.clefs)) (DelG.start hy (Akl c16x) hfk) ?_ ?_ ?_
 exact fz ⟨sr,sr,sr,sr,sr,trivial⟩
 exact gz ⟨R,R,R,R,R,R,trivial⟩
 intro p hk0d
 have hD:=hk0d
 have hlt:=hD.lt
 have hle:=hD.le
 have hlen:=hD.len
 refine zs<|zr<|zm R R<|zp (Ao R (by conv=>lhs;whnf))<|?_
 refine zp (B4 R R R Tryz.underlying75)<|zp (Au R R R)<|zn<|?_
 refine zd R (fun c19d=> ?_) (fun c19d=> ?_)
 obtain ⟨z,hz⟩:∃z,(x0.clefs)[p.1]? =some z:=Az (by omega)
 obtain ⟨w,hw⟩:∃w,p.2.2[p.2.1]? =some w:=Az (by omega)
 refine zi<|zs<|Ah<|zr<|zp (Ao R (by conv=>lhs;whnf))<|?_
 refine zm R R<|zp (Ct R R R (R) R Rk (by have:=hD.len;omega))<|zp (Ae (s':= .d (.agg (Cf.c z))) (Eo R R U2 R (Dc (hD.get hz)) lb) (by kernel_rfl))<|XL.step R (Ax 3007 (l:= [.d (dI 0), .d (dI 0)]) R U6 (by kernel_rfl))<|XL.step R (Af (l':= [.d (dI z.tk), .d (dI z.clef)]) R R R R Af8 R lb (by kernel_rfl))<|znr<|zm R R<|?_
 refine zp (Ae (s':= .d (.agg (Cf.c z))) (Ac (Ad R R U2 R lb)) (by kernel_rfl))<|XL.callv1 (ds:= [_]) R R R (Aff _ _) R<|zp (Fz R R)<|zn<|?_
 refine zd R (fun c29d=> ?_) (fun c29d=> ?_)
 refine zr<|zp (Ao R (by conv=>lhs;whnf))<|?_
 refine zm R R<|zp (Ae (s':= .d (.agg (Cf.c z))) (Ac (Ad R R U2 R lb)) (by kernel_rfl))<|zp (Ct R R R (R) R Rk (by have:=hD.lt;have:=hD.len;omega))<|XL.step R (E9 R R R (Dc hw) R R Af8 R lb)<|zng<|zm R R<|zp (Al R R R (by omega) (by omega))<|za R R<|zn<|Ag (by kernel_rfl)<|zm R R<|zp (Al R R R (by omega) (by omega))<|za R R<|zn<|?_
 exact An ((p.1+1,p.2.1+1,p.2.2.set p.2.1 z)) (hD.put hz (Afs c29d)) (by show (x0.clefs).length - (p.1+1)<(x0.clefs).length - p.1;omega) (fz ⟨sr,sr,sr,sr,sr,trivial⟩) (gz ⟨R,R,R,R,P2 R R,R,trivial⟩)
 refine zi<|Ag (by kernel_rfl)<|zm R R<|zp (Al R R R (by omega) (by omega))<|za R R<|zn<|?_
 exact An ((p.1+1,p.2.1,p.2.2)) (hD.keep hz (Akl (Decidable.not_not.1 c29d))) (by show (x0.clefs).length - (p.1+1)<(x0.clefs).length - p.1;omega) (fz ⟨sr,sr,sr,sr,sr,trivial⟩) (gz ⟨R,R,R,R,R,R,trivial⟩)
 have hfin:=hD.fin (by omega)
 refine Av<|zr<|zp (Ao R (by conv=>lhs;whnf))<|?_
 refine zm R R<|zp (K6 R R R Rk (Bd.at R) Bd.no (by rw [List.length_map];have:=hD.lt;have:=hD.le;have:=hD.len;omega) (Nat.le_refl _))<|XL.step R (R9 (l2:=(p.2.2.take p.2.1++List.replicate (p.2.2.length - p.2.1) (⟨0,0⟩:Cf)).map Cf.c) (zs:= [dI 0,dI 0]) R (.sub R) Tryz.underlying75 U6 (by kernel_rfl) (by kernel_rfl) (by decide) (by omega) (hD.clr R))<|znr<|?_
 refine zp (Ao R (by conv=>lhs;whnf))<|?_
 refine zm R R<|XL.step R (Oa R R R Rk (.at R) (by rw [List.length_map,List.length_append,List.length_take,List.length_replicate];have:=hD.lt;have:=hD.le;have:=hD.len;omega))<|zp (Ar R (by conv=>lhs;whnf))<|?_
 refine zn<|zt<|?_
 refine (D1 (l:= [(6, .ptr 6 0 0),(8, .d (.pt (Pl.c (plS m.h.m m.h.len)))),(10, .ptr 10 0 0),(11, .d (.pt (Pl.c (plS t n)))),(47, .d (dI m.cells.length)),(48, .d (dI k)),(87, .ptr 7402 k 0)]) (by kernel_rfl) (Cr R (RVS.tmp R R)) ?_).2
 refine zp (H5 R R)<|zp (Aa R R Ih)<|XL.step R (Le [7501] (l':=(mix Ce.u Ce.t ((m.cells.take k).map (Cu (plS m.h.m m.h.len) (plS t n))) (m.cells.drop k)).set k [.own 7501, .d (.sl 2 (((Cu (plS m.h.m m.h.len) (plS t n)) x0).voices.map Vo.c))]) R R R (Di (F0 hx0)) R Af9 R lb R R (List.set_set ..))<|zn<|Ag (by kernel_rfl)<|?_
 refine XL.rowq (i:=7501) (l':=(((Cu (plS m.h.m m.h.len) (plS t n)) x0).clefs).map Cf.c) R (by first|exact hD.cut.trans (congrArg (List.map Cf.c) hfin)|exact congrArg (List.map Cf.c) hfx.symm)<|XL.freeze (i:=7501) R<|?_
 refine XL.rowqT (i:=7402) (l':=(mix Ce.u Ce.t ((m.cells.take k).map (Cu (plS m.h.m m.h.len) (plS t n))) (m.cells.drop k)).set k [.d (.sl 2 ((((Cu (plS m.h.m m.h.len) (plS t n)) x0).clefs).map Cf.c)), .d (.sl 2 (((Cu (plS m.h.m m.h.len) (plS t n)) x0).voices.map Vo.c))]) [] R (Uf (Iu [] _ _) R) (Ee (Iu [] _ _) (Gn (R) (R)) _)<|?_
 refine XL.rowqT (i:=7402) (l':=mix Ce.u Ce.t ((m.cells.take (k+1)).map (Cu (plS m.h.m m.h.len) (plS t n))) (m.cells.drop (k+1))) [] R (Sm hx0) (Iu [] _ _)<|zp (Al R R R (by omega) (by omega))<|zm R R<|zn<|?_
 exact An (k+1) (⟨by omega,by rw [←Zt hx0 (by rw [←hgv,hk2b,List.drop_length];rfl)];exact hgo⟩) (by omega) (fz ⟨sr,sr,sr,sr,sr,sr,trivial⟩) (gz ⟨rfl,rfl,rfl,rfl,trivial⟩)
 refine zi<|Ag (by kernel_rfl)<|zp (Al R R R (by omega) (by omega))<|zm R R<|zn<|?_
 exact An (q+1) (⟨by omega,by rw [Th hy (Afs c16x),hfk, ←Bp hy]⟩) (by omega) (fz ⟨sr,sr,sr,sr,trivial⟩) (gz ⟨rfl,rfl,rfl,rfl,rfl,rfl,rfl,trivial⟩)
 have hfx:(x0.clefs).filter (cfK (plS t n).len)=x0.clefs:=by rw [show q=(x0.clefs).length by omega,List.take_length] at hfk;exact hfk
 refine Av<|zr<|za R R<|zn<|zt<|?_
 refine (D1 (l:= [(0, .own 7501),(1, .d (.fn 65 [] [.pt (Pl.c (plS t n))])),(4, .d (.v (.slice none 0 0)))]) (by kernel_rfl) (rs1 R (RV.tmp R R)) ?_).2
 refine za R R<|zn<|zs<|zr<|zm R R<|zp (Cn (A8 R R R) (by decide))<|zn<|A0 (by kernel_rfl) R<|zr<|zp (Ao R (by conv=>lhs;whnf))<|?_
 refine zp (Ar R (by conv=>lhs;whnf))<|?_
 refine zn<|zt<|?_
 refine (D1 (l:= [(6, .ptr 6 0 0),(8, .d (.pt (Pl.c (plS m.h.m m.h.len)))),(10, .ptr 10 0 0),(11, .d (.pt (Pl.c (plS t n)))),(47, .d (dI m.cells.length)),(48, .d (dI k)),(87, .ptr 7402 k 0)]) (by kernel_rfl) (Cr R (RVS.tmp R R)) ?_).2
 refine zp (H5 R R)<|zp (Aa R R Ih)<|XL.step R (Le [7501] (l':=(mix Ce.u Ce.t ((m.cells.take k).map (Cu (plS m.h.m m.h.len) (plS t n))) (m.cells.drop k)).set k [.own 7501, .d (.sl 2 (((Cu (plS m.h.m m.h.len) (plS t n)) x0).voices.map Vo.c))]) R R R (Di (F0 hx0)) R Af9 R lb R R (List.set_set ..))<|zn<|Ag (by kernel_rfl)<|?_
 refine XL.rowq (i:=7501) (l':=(((Cu (plS m.h.m m.h.len) (plS t n)) x0).clefs).map Cf.c) R (by first|exact hD.cut.trans (congrArg (List.map Cf.c) hfin)|exact congrArg (List.map Cf.c) hfx.symm)<|XL.freeze (i:=7501) R<|?_
 refine XL.rowqT (i:=7402) (l':=(mix Ce.u Ce.t ((m.cells.take k).map (Cu (plS m.h.m m.h.len) (plS t n))) (m.cells.drop k)).set k [.d (.sl 2 ((((Cu (plS m.h.m m.h.len) (plS t n)) x0).clefs).map Cf.c)), .d (.sl 2 (((Cu (plS m.h.m m.h.len) (plS t n)) x0).voices.map Vo.c))]) [] R (Uf (Iu [] _ _) R) (Ee (Iu [] _ _) (Gn (R) (R)) _)<|?_
 refine XL.rowqT (i:=7402) (l':=mix Ce.u Ce.t ((m.cells.take (k+1)).map (Cu (plS m.h.m m.h.len) (plS t n))) (m.cells.drop (k+1))) [] R (Sm hx0) (Iu [] _ _)<|zp (Al R R R (by omega) (by omega))<|zm R R<|zn<|?_
 exact An (k+1) (⟨by omega,by rw [←Zt hx0 (by rw [←hgv,hk2b,List.drop_length];rfl)];exact hgo⟩) (by omega) (fz ⟨sr,sr,sr,sr,sr,sr,trivial⟩) (gz ⟨rfl,rfl,rfl,rfl,trivial⟩)
 have hk0b:k=m.cells.length:=by omega
 refine Av<|zr<|zp (Aa R R Fc)<|zp (Ab R R Q9 R R)<|zp (Ow (pd:= []) (cd:= [_]) R R R)<|XL.inl 900005 [(6, .ptr 6 0 0),(10, .ptr 10 0 0)] R R .d Ado Tryz.func66 R R lb (by simp only [List.forall_mem_cons];exact ⟨⟨Nat.le_of_ble_eq_true rfl,rfl⟩,⟨⟨Nat.le_of_ble_eq_true rfl,rfl⟩,fun p hp=>(by cases hp)⟩⟩) fun u5=>zr<|za R R<|znr<|?_
 refine zp (Ao R (by conv=>lhs;whnf))<|?_
 refine zm R R<|XL.inl 900006 [(0, .own 7401),(1, .d (.fn 67 [] [.pt (Pl.c (plS t n))])),(4, .d (.v (.slice none 0 0)))] R R .d Ace Tryz.func100 R R lb (by simp only [List.forall_mem_cons];exact ⟨⟨Nat.le_of_ble_eq_true rfl,rfl⟩,⟨⟨Nat.le_of_ble_eq_true rfl,rfl⟩,⟨⟨Nat.le_of_ble_eq_true rfl,rfl⟩,fun p hp=>(by cases hp)⟩⟩⟩) fun u6=>zr<|za R R<|zn<|zs<|zr<|?_
 refine zp (Ao R (by conv=>lhs;whnf))<|?_
 refine zp (B4 R R R Tryz.underlying27)<|zm R R<|zn<|Ah<|?_
 refine A4 (α:=Nat) (fun q=>q≤(m.tempi).length∧((m.tempi).take q).filter (tmK (plS t n).len)=(m.tempi).take q) (fun q=>mkF [(0, .own 7401),(1, .d (.fn 67 [] [.pt (Pl.c (plS t n))])),(7, .d (dI m.tempi.length)),(8, .d (dI q))]) (fun q=>mkH [(6, .box [.d (dI 0), .d (dI 0), .d (dI 0), .d (dI 0), .d (dI 0), .d (dI 0), .d (dI 0), .d (dI 0), .d (dI 0), .d (dI 0), .d (dI 0), .d (dI 0), .d (dB false), .d (dI 0), .d (dI 0), .d (dI 0), .d (dI 0), .d (dI 0), .d (dI 0), .d (.v (.string ⟨#[]⟩)), .d (.v (.slice none 0 0)), .d (.v (.slice none 0 0))]),(10, .box [.d (dI (m.h.sh t n).site), .d (dI (m.h.sh t n).num), .d (dI (m.h.sh t n).m.count), .d (dI (m.h.sh t n).m.unit), .d (dI (m.h.sh t n).m.g0), .d (dI (m.h.sh t n).m.g1), .d (dI (m.h.sh t n).m.g2), .d (dI (m.h.sh t n).m.g3), .d (dI (m.h.sh t n).m.g4), .d (dI (m.h.sh t n).m.g5), .d (dI (m.h.sh t n).len), .d (dI (m.h.sh t n).fifths), .d (dB (m.h.sh t n).start), .d (dI (m.h.sh t n).fin), .d (dI (m.h.sh t n).ends), .d (dI (m.h.sh t n).jump), .d (dI (m.h.sh t n).labels), .d (dI (m.h.sh t n).swing), .d (dI (m.h.sh t n).brk), .d (.v (.string ⟨(m.h.sh t n).reh.toArray⟩)), .own 7401, .own 7402]),(7401, .row 119 3 ((m.tempi).map Tm.c)),(7402, .tree 78 2 [] (mix Ce.u Ce.t ((m.cells.take k).map (Cu (plS m.h.m m.h.len) (plS t n))) (m.cells.drop k))),(900005, .ghost u5 [(6, .ptr 6 0 0),(10, .ptr 10 0 0)]),(900006, .ghost u6 [(0, .own 7401),(1, .d (.fn 67 [] [.pt (Pl.c (plS t n))])),(4, .d (.v (.slice none 0 0)))])]) (fun q=>(m.tempi).length - q) (0) (⟨Nat.zero_le _,R⟩) ?_ ?_ ?_
 exact fz ⟨sr,sr,sr,sr,trivial⟩
 exact gz ⟨R,R,R,R,R,R,trivial⟩
 intro q hk0x
 obtain ⟨hk,hfk⟩:=hk0x
 refine zr<|zp (Au R R R)<|zn<|zs<|?_
 refine zd R (fun c9x=> ?_) (fun c9x=> ?_)
 obtain ⟨y,hy⟩:∃y,(m.tempi)[q]? =some y:=Az (by omega)
 refine zi<|zs<|Ah<|zr<|zm R R<|za R R<|znr<|zm R R<|zp (Ao R (by conv=>lhs;whnf))<|?_
 refine zm R R<|zp (Ct R R R (R) R O9 (by omega))<|zp (Ae (s':= .d (.agg (Tm.c y))) (Eo R R Rp R (Dc (hy)) lb) (by kernel_rfl))<|XL.callv1 (ds:= [_]) R R R (Afe _ _) R<|zn<|?_
 refine zd R (fun c16x=> ?_) (fun c16x=> ?_)
 refine zr<|zm R R<|za R R<|zn<|zt<|?_
 refine (D1 (l:= [(0, .own 7401),(1, .d (.fn 67 [] [.pt (Pl.c (plS t n))])),(4, .d (.v (.slice none 0 0)))]) (by kernel_rfl) (rs1 R (RV.tmp R R)) ?_).2
 refine za R R<|zn<|zs<|zr<|zm R R<|zp (A8 R R R)<|zn<|?_
 refine zd R (fun c12d=> ?_) (fun c12d=> ?_)
 exfalso;omega
 refine zi<|zs<|zr<|zm R R<|zp (Al R R R (by omega) (by omega))<|za R R<|zn<|Ah<|?_
 refine A4 (α:=Nat × Nat × List Tm) (fun p=>DelG (tmK (plS t n).len) (m.tempi) p.1 p.2.1 p.2.2) (fun p=>mkF [(0, .own 7401),(1, .d (.fn 67 [] [.pt (Pl.c (plS t n))])),(4, .d (.v (.slice none 0 0))),(5, .d (dI p.2.1)),(6, .d (dI p.1))]) (fun p=>mkH [(6, .box [.d (dI 0), .d (dI 0), .d (dI 0), .d (dI 0), .d (dI 0), .d (dI 0), .d (dI 0), .d (dI 0), .d (dI 0), .d (dI 0), .d (dI 0), .d (dI 0), .d (dB false), .d (dI 0), .d (dI 0), .d (dI 0), .d (dI 0), .d (dI 0), .d (dI 0), .d (.v (.string ⟨#[]⟩)), .d (.v (.slice none 0 0)), .d (.v (.slice none 0 0))]),(10, .box [.d (dI (m.h.sh t n).site), .d (dI (m.h.sh t n).num), .d (dI (m.h.sh t n).m.count), .d (dI (m.h.sh t n).m.unit), .d (dI (m.h.sh t n).m.g0), .d (dI (m.h.sh t n).m.g1), .d (dI (m.h.sh t n).m.g2), .d (dI (m.h.sh t n).m.g3), .d (dI (m.h.sh t n).m.g4), .d (dI (m.h.sh t n).m.g5), .d (dI (m.h.sh t n).len), .d (dI (m.h.sh t n).fifths), .d (dB (m.h.sh t n).start), .d (dI (m.h.sh t n).fin), .d (dI (m.h.sh t n).ends), .d (dI (m.h.sh t n).jump), .d (dI (m.h.sh t n).labels), .d (dI (m.h.sh t n).swing), .d (dI (m.h.sh t n).brk), .d (.v (.string ⟨(m.h.sh t n).reh.toArray⟩)), .own 7401, .own 7402]),(7401, .row 119 3 (p.2.2.map Tm.c)),(7402, .tree 78 2 [] (mix Ce.u Ce.t ((m.cells.take k).map (Cu (plS m.h.m m.h.len) (plS t n))) (m.cells.drop k))),(900005, .ghost u5 [(6, .ptr 6 0 0),(10, .ptr 10 0 0)])]) (fun p=>(m.tempi).length - p.1) ((q+1,q,m.tempi)) (DelG.start hy (Ah3 c16x) hfk) ?_ ?_ ?_
 exact fz ⟨sr,sr,sr,sr,sr,trivial⟩
 exact gz ⟨R,R,R,R,R,trivial⟩
 intro p hk0d
 have hD:=hk0d
 have hlt:=hD.lt
 have hle:=hD.le
 have hlen:=hD.len
 refine zs<|zr<|zm R R<|zp (Ao R (by conv=>lhs;whnf))<|?_
 refine zp (B4 R R R Tryz.underlying27)<|zp (Au R R R)<|zn<|?_
 refine zd R (fun c19d=> ?_) (fun c19d=> ?_)
 obtain ⟨z,hz⟩:∃z,(m.tempi)[p.1]? =some z:=Az (by omega)
 obtain ⟨w,hw⟩:∃w,p.2.2[p.2.1]? =some w:=Az (by omega)
 refine zi<|zs<|Ah<|zr<|zp (Ao R (by conv=>lhs;whnf))<|?_
 refine zm R R<|zp (Ct R R R (R) R O9 (by have:=hD.len;omega))<|zp (Ae (s':= .d (.agg (Tm.c z))) (Eo R R Rp R (Dc (hD.get hz)) lb) (by kernel_rfl))<|XL.step R (Ax 5007 (l:= [.d (dI 0), .d (dI 0), .d (dB false)]) R L9 (by kernel_rfl))<|XL.step R (Af (l':= [.d (dI z.tk), .d (dI z.micros), .d (dB z.ramp)]) R R R R Ps R lb (by kernel_rfl))<|?_
 refine znr<|zm R R<|zp (Ae (s':= .d (.agg (Tm.c z))) (Ac (Ad R R Rp R lb)) (by kernel_rfl))<|XL.callv1 (ds:= [_]) R R R (Afe _ _) R<|zp (Fz R R)<|zn<|?_
 refine zd R (fun c29d=> ?_) (fun c29d=> ?_)
 refine zr<|zp (Ao R (by conv=>lhs;whnf))<|?_
 refine zm R R<|zp (Ae (s':= .d (.agg (Tm.c z))) (Ac (Ad R R Rp R lb)) (by kernel_rfl))<|zp (Ct R R R (R) R O9 (by have:=hD.lt;have:=hD.len;omega))<|XL.step R (E9 R R R (Dc hw) R R Ps R lb)<|zng<|zm R R<|zp (Al R R R (by omega) (by omega))<|za R R<|zn<|Ag (by kernel_rfl)<|zm R R<|zp (Al R R R (by omega) (by omega))<|za R R<|zn<|?_
 exact An ((p.1+1,p.2.1+1,p.2.2.set p.2.1 z)) (hD.put hz (Ael c29d)) (by show (m.tempi).length - (p.1+1)<(m.tempi).length - p.1;omega) (fz ⟨sr,sr,sr,sr,sr,trivial⟩) (gz ⟨R,R,P2 R R,R,R,trivial⟩)
 refine zi<|Ag (by kernel_rfl)<|zm R R<|zp (Al R R R (by omega) (by omega))<|za R R<|zn<|?_
 exact An ((p.1+1,p.2.1,p.2.2)) (hD.keep hz (Ah3 (Decidable.not_not.1 c29d))) (by show (m.tempi).length - (p.1+1)<(m.tempi).length - p.1;omega) (fz ⟨sr,sr,sr,sr,sr,trivial⟩) (gz ⟨R,R,R,R,R,trivial⟩)
 have hfin:=hD.fin (by omega)
 refine Av<|zr<|zp (Ao R (by conv=>lhs;whnf))<|?_
 refine zm R R<|zp (K6 R R R O9 (Bd.at R) Bd.no (by rw [List.length_map];have:=hD.lt;have:=hD.le;have:=hD.len;omega) (Nat.le_refl _))<|XL.step R (R9 (l2:=(p.2.2.take p.2.1++List.replicate (p.2.2.length - p.2.1) (⟨0,0,false⟩:Tm)).map Tm.c) (zs:= [dI 0,dI 0,dB false]) R (.sub R) Tryz.underlying27 L9 (by kernel_rfl) (by kernel_rfl) (by decide) (by omega) (hD.clr R))<|?_
 refine znr<|zp (Ao R (by conv=>lhs;whnf))<|?_
 refine zm R R<|XL.step R (Oa R R R O9 (.at R) (by rw [List.length_map,List.length_append,List.length_take,List.length_replicate];have:=hD.lt;have:=hD.le;have:=hD.len;omega))<|zp (Ar R (by conv=>lhs;whnf))<|?_
 refine zn<|zt<|?_
 refine (D1 (l:= [(6, .ptr 6 0 0),(10, .ptr 10 0 0)]) (by kernel_rfl) (Cr R (RVS.tmp R R)) ?_).2
 refine zp (Aa R R Fc)<|?_
 refine XL.step R (Af (l':= [.d (dI (m.h.sh t n).site), .d (dI (m.h.sh t n).num), .d (dI (m.h.sh t n).m.count), .d (dI (m.h.sh t n).m.unit), .d (dI (m.h.sh t n).m.g0), .d (dI (m.h.sh t n).m.g1), .d (dI (m.h.sh t n).m.g2), .d (dI (m.h.sh t n).m.g3), .d (dI (m.h.sh t n).m.g4), .d (dI (m.h.sh t n).m.g5), .d (dI (m.h.sh t n).len), .d (dI (m.h.sh t n).fifths), .d (dB (m.h.sh t n).start), .d (dI (m.h.sh t n).fin), .d (dI (m.h.sh t n).ends), .d (dI (m.h.sh t n).jump), .d (dI (m.h.sh t n).labels), .d (dI (m.h.sh t n).swing), .d (dI (m.h.sh t n).brk), .d (.v (.string ⟨(m.h.sh t n).reh.toArray⟩)), .own 7401, .own 7402]) R R R R Tz R lb (by kernel_rfl))<|?_
 refine znr<|XL.rowq (i:=7401) (l':=(m.tempi.filter (tmK (plS t n).len)).map Tm.c) R (by first|exact hD.cut.trans (congrArg (List.map Tm.c) hfin)|exact congrArg (List.map Tm.c) hfx.symm)<|XL.freeze (i:=7401) R<|XL.freezeT (i:=7402) R (Ae6 _ _) (by rw [Ai5,hk0b,List.take_length,List.drop_length,List.append_nil])<|?_
 refine zp (Ae (s':= .d (.agg [dI (m.h.sh t n).site,dI (m.h.sh t n).num,dI (m.h.sh t n).m.count,dI (m.h.sh t n).m.unit,dI (m.h.sh t n).m.g0,dI (m.h.sh t n).m.g1,dI (m.h.sh t n).m.g2,dI (m.h.sh t n).m.g3,dI (m.h.sh t n).m.g4,dI (m.h.sh t n).m.g5,dI (m.h.sh t n).len,dI (m.h.sh t n).fifths,dB (m.h.sh t n).start,dI (m.h.sh t n).fin,dI (m.h.sh t n).ends,dI (m.h.sh t n).jump,dI (m.h.sh t n).labels,dI (m.h.sh t n).swing,dI (m.h.sh t n).brk, .v (.string ⟨(m.h.sh t n).reh.toArray⟩), .sl 3 ((m.tempi.filter (tmK (plS t n).len)).map Tm.c), .sl 2 ((m.cells.map (Cu (plS m.h.m m.h.len) (plS t n))).map Ce.c)])) (Ac (Ad R R Cj R lb)) (by kernel_rfl))<|?_
 refine XL.step R (Af (l':= [.d (dI (m.h.sh t n).site), .d (dI (m.h.sh t n).num), .d (dI (m.h.sh t n).m.count), .d (dI (m.h.sh t n).m.unit), .d (dI (m.h.sh t n).m.g0), .d (dI (m.h.sh t n).m.g1), .d (dI (m.h.sh t n).m.g2), .d (dI (m.h.sh t n).m.g3), .d (dI (m.h.sh t n).m.g4), .d (dI (m.h.sh t n).m.g5), .d (dI (m.h.sh t n).len), .d (dI (m.h.sh t n).fifths), .d (dB (m.h.sh t n).start), .d (dI (m.h.sh t n).fin), .d (dI (m.h.sh t n).ends), .d (dI (m.h.sh t n).jump), .d (dI (m.h.sh t n).labels), .d (dI (m.h.sh t n).swing), .d (dI (m.h.sh t n).brk), .d (.v (.string ⟨(m.h.sh t n).reh.toArray⟩)), .d (.sl 3 ((m.tempi.filter (tmK (plS t n).len)).map Tm.c)), .d (.sl 2 ((m.cells.map (Cu (plS m.h.m m.h.len) (plS t n))).map Ce.c))]) R R R R Gu R lb (by kernel_rfl))<|?_
 refine za R R<|zn<|zt<|?_
 exact A6 R (RV.cells R R R Cj lb R) (RV.tmp R R) (Vs (Arx c21 c33 (by rw [←hgo,hk0b,List.drop_length];rfl)))
 refine zi<|Ag (by kernel_rfl)<|zp (Al R R R (by omega) (by omega))<|zm R R<|zn<|?_
 exact An (q+1) (⟨by omega,by rw [Th hy (Ael c16x),hfk, ←Bp hy]⟩) (by omega) (fz ⟨sr,sr,sr,sr,trivial⟩) (gz ⟨rfl,rfl,rfl,rfl,rfl,rfl,trivial⟩)
 have hfx:(m.tempi).filter (tmK (plS t n).len)=m.tempi:=by rw [show q=(m.tempi).length by omega,List.take_length] at hfk;exact hfk
 refine Av<|zr<|za R R<|zn<|zt<|?_
 refine (D1 (l:= [(0, .own 7401),(1, .d (.fn 67 [] [.pt (Pl.c (plS t n))])),(4, .d (.v (.slice none 0 0)))]) (by kernel_rfl) (rs1 R (RV.tmp R R)) ?_).2
 refine za R R<|zn<|zs<|zr<|zm R R<|zp (Cn (A8 R R R) (by decide))<|zn<|A0 (by kernel_rfl) R<|zr<|zp (Ao R (by conv=>lhs;whnf))<|?_
 refine zp (Ar R (by conv=>lhs;whnf))<|?_
 refine zn<|zt<|?_
 refine (D1 (l:= [(6, .ptr 6 0 0),(10, .ptr 10 0 0)]) (by kernel_rfl) (Cr R (RVS.tmp R R)) ?_).2
 refine zp (Aa R R Fc)<|?_
 refine XL.step R (Af (l':= [.d (dI (m.h.sh t n).site), .d (dI (m.h.sh t n).num), .d (dI (m.h.sh t n).m.count), .d (dI (m.h.sh t n).m.unit), .d (dI (m.h.sh t n).m.g0), .d (dI (m.h.sh t n).m.g1), .d (dI (m.h.sh t n).m.g2), .d (dI (m.h.sh t n).m.g3), .d (dI (m.h.sh t n).m.g4), .d (dI (m.h.sh t n).m.g5), .d (dI (m.h.sh t n).len), .d (dI (m.h.sh t n).fifths), .d (dB (m.h.sh t n).start), .d (dI (m.h.sh t n).fin), .d (dI (m.h.sh t n).ends), .d (dI (m.h.sh t n).jump), .d (dI (m.h.sh t n).labels), .d (dI (m.h.sh t n).swing), .d (dI (m.h.sh t n).brk), .d (.v (.string ⟨(m.h.sh t n).reh.toArray⟩)), .own 7401, .own 7402]) R R R R Tz R lb (by kernel_rfl))<|?_
 refine znr<|XL.rowq (i:=7401) (l':=(m.tempi.filter (tmK (plS t n).len)).map Tm.c) R (by first|exact hD.cut.trans (congrArg (List.map Tm.c) hfin)|exact congrArg (List.map Tm.c) hfx.symm)<|XL.freeze (i:=7401) R<|XL.freezeT (i:=7402) R (Ae6 _ _) (by rw [Ai5,hk0b,List.take_length,List.drop_length,List.append_nil])<|?_
 refine zp (Ae (s':= .d (.agg [dI (m.h.sh t n).site,dI (m.h.sh t n).num,dI (m.h.sh t n).m.count,dI (m.h.sh t n).m.unit,dI (m.h.sh t n).m.g0,dI (m.h.sh t n).m.g1,dI (m.h.sh t n).m.g2,dI (m.h.sh t n).m.g3,dI (m.h.sh t n).m.g4,dI (m.h.sh t n).m.g5,dI (m.h.sh t n).len,dI (m.h.sh t n).fifths,dB (m.h.sh t n).start,dI (m.h.sh t n).fin,dI (m.h.sh t n).ends,dI (m.h.sh t n).jump,dI (m.h.sh t n).labels,dI (m.h.sh t n).swing,dI (m.h.sh t n).brk, .v (.string ⟨(m.h.sh t n).reh.toArray⟩), .sl 3 ((m.tempi.filter (tmK (plS t n).len)).map Tm.c), .sl 2 ((m.cells.map (Cu (plS m.h.m m.h.len) (plS t n))).map Ce.c)])) (Ac (Ad R R Cj R lb)) (by kernel_rfl))<|?_
 refine XL.step R (Af (l':= [.d (dI (m.h.sh t n).site), .d (dI (m.h.sh t n).num), .d (dI (m.h.sh t n).m.count), .d (dI (m.h.sh t n).m.unit), .d (dI (m.h.sh t n).m.g0), .d (dI (m.h.sh t n).m.g1), .d (dI (m.h.sh t n).m.g2), .d (dI (m.h.sh t n).m.g3), .d (dI (m.h.sh t n).m.g4), .d (dI (m.h.sh t n).m.g5), .d (dI (m.h.sh t n).len), .d (dI (m.h.sh t n).fifths), .d (dB (m.h.sh t n).start), .d (dI (m.h.sh t n).fin), .d (dI (m.h.sh t n).ends), .d (dI (m.h.sh t n).jump), .d (dI (m.h.sh t n).labels), .d (dI (m.h.sh t n).swing), .d (dI (m.h.sh t n).brk), .d (.v (.string ⟨(m.h.sh t n).reh.toArray⟩)), .d (.sl 3 ((m.tempi.filter (tmK (plS t n).len)).map Tm.c)), .d (.sl 2 ((m.cells.map (Cu (plS m.h.m m.h.len) (plS t n))).map Ce.c))]) R R R R Gu R lb (by kernel_rfl))<|?_
 refine za R R<|zn<|zt<|?_
 exact A6 R (RV.cells R R R Cj lb R) (RV.tmp R R) (Vs (Arx c21 c33 (by rw [←hgo,hk0b,List.drop_length];rfl)))
end Go.Proofs.YtaafemnkamfgnaaGreat
namespace Go.Proofs.YtaafemnkamfgnaaGreat
open Go.RowKit
def kR (n:Int) (v:Val):Ev:=⟨1,n,2,v, [], [],0,0,0, [],0,0⟩
def Vq:Vo:=⟨[kR 1 ⟨1,0⟩,kR 2 ⟨2,0⟩], []⟩
def Vp:Vo:=⟨[kR 3 ⟨1,1⟩], []⟩
def kCe:Ce:=⟨[], [Vq,Vp]⟩
def kMe:Me:=⟨3,4,0,0,0,0,0,0⟩
def Kb:Me:=⟨4,4,0,0,0,0,0,0⟩
def kM:Ms:=⟨⟨0,0,kMe,0,0,false,0,0,0,0,0,0, []⟩, [], [kCe]⟩
def kSl:List Slt:= [⟨0,0,0,0,967680⟩,⟨0,0,1,967680,1451520⟩,⟨0,1,0,0,1451520⟩]
theorem Ajm (n:Int) (v:Val):(kR n v).fit:=⟨Nat.zero_le _,Nat.zero_le _,Nat.zero_le _⟩
theorem Ze : kM.fit := ⟨by decide, by decide, fun c hc => by
 have:=List.mem_singleton.1 hc;subst this
 refine ⟨by decide,by decide,fun v hv=> ?_⟩
 simp only [kCe,List.mem_cons,List.not_mem_nil,or_false] at hv
 rcases hv with rfl|rfl
 ·exact ⟨by decide,by decide,fun e he=>by simp only [Vq,List.mem_cons,List.not_mem_nil,or_false] at he;rcases he with rfl|rfl<;>exact Ajm _ _⟩
 ·exact ⟨by decide, by decide, fun e he => by simp only [Vp, List.mem_cons, List.not_mem_nil, or_false] at he; rcases he with rfl; exact Ajm _ _⟩⟩
theorem Zf:kM.evs:=fun c hc v hv e he=>by
 have:=List.mem_singleton.1 hc;subst this
 simp only [kCe,List.mem_cons,List.not_mem_nil,or_false] at hv
 rcases hv with rfl|rfl
 ·simp only [Vq,List.mem_cons,List.not_mem_nil,or_false] at he;rcases he with rfl|rfl<;>decide
 ·simp only [Vp,List.mem_cons,List.not_mem_nil,or_false] at he;rcases he with rfl;decide
theorem Ajk:slE kM=0:=by decide+kernel
theorem Ajj:slL kM=kSl:=by decide+kernel
theorem Aro:mlE kMe 0=0:=by decide+kernel
theorem Arn:mlV kMe 0=1451520:=by decide+kernel
theorem Arp:Jl kM= [0,967680]:=by
 unfold Jl
 rw [Ajj,show kSl.map (·.on)= [0,967680,0] from rfl]
 have h1:srt [0,967680,0]= [0,0,967680]:=by
  have hp:([0,967680,0]:List Int).Perm [0,0,967680]:=by decide
  have e1:srt [0,967680,0]=srt [0,0,967680]:=by
   refine List.Perm.eq_of_pairwise (le:=fun a b=>decide (a≤b)=true) (fun a b _ _ h1 h2=>by simp at h1 h2;omega) (List.pairwise_mergeSort (fun a b c h1 h2=>by simp at h1 h2 ⊢;omega) (fun a b=>by simp;omega) _) (List.pairwise_mergeSort (fun a b c h1 h2=>by simp at h1 h2 ⊢;omega) (fun a b=>by simp;omega) _) ?_
   exact ((List.mergeSort_perm _ _).trans hp).trans (List.mergeSort_perm _ _).symm
  rw [e1]
  exact List.mergeSort_of_pairwise (by decide)
 rw [h1]
 decide+kernel
theorem Ant:Jk kM Kb 0=0:=by decide+kernel
theorem Ast:M0 kM Kb 0=Ag9 kM Kb 0 (plS kMe 0) (plS Kb 0):=by rw [M0,Ant];rfl
theorem Ajl:(Cu (plS kMe 0) (plS Kb 0) kCe).voices.length=2:=by decide+kernel
theorem Asu : ∃ y, (Cu (plS kMe 0) (plS Kb 0) kCe).voices[1]? = some y ∧ y.evs.length = 2 := ⟨(Cu (plS kMe 0) (plS Kb 0) kCe).voices[1]'(by rw [Ajl]; decide), List.getElem?_eq_getElem _, by decide +kernel⟩
theorem Vh (n:Int) (v:Val):XC Tryz.prog 94 [.agg [dI 1,dI n], .agg (Val.c v)] (fun r=>r= .agg (Ev.c (kR n v))):=by
 refine Ap Add Tryz.func94 R R lb<|zr<|XL.step R (At 2 (l:= [.d (dI 1), .d (dI n)]) R R (by kernel_rfl))<|XL.step R (At 3 (l:= [.d (dI v.log), .d (dI v.dots)]) R R (by kernel_rfl))<|?_
 refine XL.step R (Ax 4 (l:= [.d (dI 0), .d (dI 0), .d (dI 0), .d (dI 0), .d (dI 0), .d (.v (.slice none 0 0)), .d (.v (.slice none 0 0)), .d (dI 0), .d (dI 0), .d (dI 0), .d (.v (.slice none 0 0)), .d (dI 0), .d (dI 0)]) R Cb (by kernel_rfl))<|znr<|zp (Ae (s':= .d (.agg [dI 1,dI n])) (Ac (Ad R R Akq R lb)) (by kernel_rfl))<|?_
 refine zp (Ae (s':= .d (.agg (Val.c v))) (Ac (Ad R R Eg R lb)) (by kernel_rfl))<|zp (Ae (s':= .d (.agg [dI 1,dI n,dI 2,dI v.log,dI v.dots, .v (.slice none 0 0), .v (.slice none 0 0),dI 0,dI 0,dI 0, .v (.slice none 0 0),dI 0,dI 0])) (Ac (Ba R Pt Cb R)) (by kernel_rfl))<|?_
 refine XL.step R (Af (l':= [.d (dI 1), .d (dI n), .d (dI 2), .d (dI v.log), .d (dI v.dots), .d (.v (.slice none 0 0)), .d (.v (.slice none 0 0)), .d (dI 0), .d (dI 0), .d (dI 0), .d (.v (.slice none 0 0)), .d (dI 0), .d (dI 0)]) R R R R C4 R lb (by kernel_rfl))<|zn<|zt<|?_
 exact Kn R (RV.sub (RV.cells R R R B0 lb R) (.agg (.cons (.same R) (.cons (.same R) (.cons (.same R) (.cons (.same R) (.cons (.same R) (.cons (.nil 5) (.cons (.nil 5) (.cons (.same R) (.cons (.same R) (.cons (.same R) (.cons (.nil 2) (.cons (.same R) (.cons (.same R) (.nil)))))))))))))))) (R)
theorem Lx  :XC Tryz.prog 55 [] (fun r=>r= .agg (Ms.c kM)):=by
 refine Ap Ady Tryz.func55 R R lb<|zr<|XL.step R (Ax 0 (l:= [.d (dI 0), .d (dI 0), .d (dI 0), .d (dI 0), .d (dI 0), .d (dI 0), .d (dI 0), .d (dI 0), .d (dI 0), .d (dI 0), .d (dI 0), .d (dI 0), .d (dB false), .d (dI 0), .d (dI 0), .d (dI 0), .d (dI 0), .d (dI 0), .d (dI 0), .d (.v (.string ⟨#[]⟩)), .d (.v (.slice none 0 0)), .d (.v (.slice none 0 0))]) R F9 (by kernel_rfl))<|znr<|?_
 refine zp (Ae (s':= .d (.agg [dI 1,dI 1])) (Ac (Ba R Ye U7 R)) (by kernel_rfl))<|zp (Ae (s':= .d (.agg [dI 1,dI 0])) (Ac (Ba R Yd Fg R)) (by kernel_rfl))<|XL.call1 R R (Vh 1 ⟨1,0⟩) R<|zp (Ae (s':= .d (.agg [dI 1,dI 2])) (Ac (Ba R Ye U7 R)) (by kernel_rfl))<|?_
 refine zp (Ae (s':= .d (.agg [dI 2,dI 0])) (Ac (Ba R Yd Fg R)) (by kernel_rfl))<|XL.call1 R R (Vh 2 ⟨2,0⟩) R<|XL.step R (Ax 1 (l:= [.d (dI 0), .d (dI 0), .d (dI 0), .d (dI 0), .d (dI 0), .d (.v (.slice none 0 0)), .d (.v (.slice none 0 0)), .d (dI 0), .d (dI 0), .d (dI 0), .d (.v (.slice none 0 0)), .d (dI 0), .d (dI 0)]) R Cb (by kernel_rfl))<|?_
 refine XL.step R (Ax 2 (l:= [.d (dI 0), .d (dI 0), .d (dI 0), .d (dI 0), .d (dI 0), .d (.v (.slice none 0 0)), .d (.v (.slice none 0 0)), .d (dI 0), .d (dI 0), .d (dI 0), .d (.v (.slice none 0 0)), .d (dI 0), .d (dI 0)]) R Cb (by kernel_rfl))<|?_
 refine XL.step R (Af (l':= [.d (dI (kR 1 ⟨1,0⟩).site), .d (dI (kR 1 ⟨1,0⟩).num), .d (dI (kR 1 ⟨1,0⟩).kind), .d (dI (kR 1 ⟨1,0⟩).v.log), .d (dI (kR 1 ⟨1,0⟩).v.dots), .d (.sl 5 ((kR 1 ⟨1,0⟩).heads.map Hd.c)), .d (.sl 5 ((kR 1 ⟨1,0⟩).graces.map Gr.c)), .d (dI (kR 1 ⟨1,0⟩).art), .d (dI (kR 1 ⟨1,0⟩).orn), .d (dI (kR 1 ⟨1,0⟩).dyn), .d (.sl 2 ((kR 1 ⟨1,0⟩).lyr.map Sy.c)), .d (dI (kR 1 ⟨1,0⟩).stem), .d (dI (kR 1 ⟨1,0⟩).beam)]) R R R R C4 R lb (by kernel_rfl))<|?_
 refine XL.step R (Af (l':= [.d (dI (kR 2 ⟨2,0⟩).site), .d (dI (kR 2 ⟨2,0⟩).num), .d (dI (kR 2 ⟨2,0⟩).kind), .d (dI (kR 2 ⟨2,0⟩).v.log), .d (dI (kR 2 ⟨2,0⟩).v.dots), .d (.sl 5 ((kR 2 ⟨2,0⟩).heads.map Hd.c)), .d (.sl 5 ((kR 2 ⟨2,0⟩).graces.map Gr.c)), .d (dI (kR 2 ⟨2,0⟩).art), .d (dI (kR 2 ⟨2,0⟩).orn), .d (dI (kR 2 ⟨2,0⟩).dyn), .d (.sl 2 ((kR 2 ⟨2,0⟩).lyr.map Sy.c)), .d (dI (kR 2 ⟨2,0⟩).stem), .d (dI (kR 2 ⟨2,0⟩).beam)]) R R R R C4 R lb (by kernel_rfl))<|?_
 refine znr<|zp (Ae (s':= .d (.agg [dI 1,dI 3])) (Ac (Ba R Ye U7 R)) (by kernel_rfl))<|zp (Ae (s':= .d (.agg [dI 1,dI 1])) (Ac (Ba R Yd Fg R)) (by kernel_rfl))<|XL.call1 R R (Vh 3 ⟨1,1⟩) R<|?_
 refine XL.step R (Ax 3 (l:= [.d (dI 0), .d (dI 0), .d (dI 0), .d (dI 0), .d (dI 0), .d (.v (.slice none 0 0)), .d (.v (.slice none 0 0)), .d (dI 0), .d (dI 0), .d (dI 0), .d (.v (.slice none 0 0)), .d (dI 0), .d (dI 0)]) R Cb (by kernel_rfl))<|?_
 refine XL.step R (Af (l':= [.d (dI (kR 3 ⟨1,1⟩).site), .d (dI (kR 3 ⟨1,1⟩).num), .d (dI (kR 3 ⟨1,1⟩).kind), .d (dI (kR 3 ⟨1,1⟩).v.log), .d (dI (kR 3 ⟨1,1⟩).v.dots), .d (.sl 5 ((kR 3 ⟨1,1⟩).heads.map Hd.c)), .d (.sl 5 ((kR 3 ⟨1,1⟩).graces.map Gr.c)), .d (dI (kR 3 ⟨1,1⟩).art), .d (dI (kR 3 ⟨1,1⟩).orn), .d (dI (kR 3 ⟨1,1⟩).dyn), .d (.sl 2 ((kR 3 ⟨1,1⟩).lyr.map Sy.c)), .d (dI (kR 3 ⟨1,1⟩).stem), .d (dI (kR 3 ⟨1,1⟩).beam)]) R R R R C4 R lb (by kernel_rfl))<|?_
 refine znr<|zp (Ae (s':= .d (.agg [dI 3,dI 4,dI 0,dI 0,dI 0,dI 0,dI 0,dI 0])) (Ac (Ba R Ah8 Aee R)) (by kernel_rfl))<|zp (Ae (s':= .d (.agg (Ev.c (kR 1 ⟨1,0⟩)))) (Ac (Ad R R B0 R lb)) (by kernel_rfl))<|zp (Ae (s':= .d (.agg (Ev.c (kR 2 ⟨2,0⟩)))) (Ac (Ad R R B0 R lb)) (by kernel_rfl))<|?_
 refine XL.step R (G0 (l:= [kR 1 ⟨1,0⟩,kR 2 ⟨2,0⟩].map Ev.c) R Tryz.underlying79 C4 Cb (by kernel_rfl) R (by omega) (by omega))<|zp (Ot (.agg (Vo.c Vq)) (Ae (s':= .d (.agg [.sl 13 ([kR 1 ⟨1,0⟩,kR 2 ⟨2,0⟩].map Ev.c), .v (.slice none 0 0)])) (Ac (Ba R C0 Bh R)) (by kernel_rfl)) (.agg (.cons (.same R) (.cons (.nil 4) (.nil)))))<|?_
 refine zp (Ae (s':= .d (.agg (Ev.c (kR 3 ⟨1,1⟩)))) (Ac (Ad R R B0 R lb)) (by kernel_rfl))<|XL.step R (G0 (l:= [kR 3 ⟨1,1⟩].map Ev.c) R Tryz.underlying79 C4 Cb (by kernel_rfl) R (by omega) (by omega))<|?_
 refine zp (Ot (.agg (Vo.c Vp)) (Ae (s':= .d (.agg [.sl 13 ([kR 3 ⟨1,1⟩].map Ev.c), .v (.slice none 0 0)])) (Ac (Ba R C0 Bh R)) (by kernel_rfl)) (.agg (.cons (.same R) (.cons (.nil 4) (.nil)))))<|XL.step R (G0 (l:= [Vq,Vp].map Vo.c) R Tryz.underlying76 Bq Bh (by kernel_rfl) R (by omega) (by omega))<|?_
 refine zp (Ot (.agg (Ce.c kCe)) (Ae (s':= .d (.agg [.v (.slice none 0 0), .sl 2 ([Vq,Vp].map Vo.c)])) (Ac (Ba R Ah7 Gv R)) (by kernel_rfl)) (.agg (.cons (.nil 2) (.cons (.same R) (.nil)))))<|XL.step R (G0 (l:= [kCe].map Ce.c) R Tryz.underlying28 Nc Gv (by kernel_rfl) R (by omega) (by omega))<|?_
 refine zp (Ot (.agg (Ms.c kM)) (Ae (s':= .d (.agg [dI 0,dI 0,dI 3,dI 4,dI 0,dI 0,dI 0,dI 0,dI 0,dI 0,dI 0,dI 0,dB false,dI 0,dI 0,dI 0,dI 0,dI 0,dI 0, .v (.string ⟨#[]⟩), .v (.slice none 0 0), .sl 2 ([kCe].map Ce.c)])) (Ac (Ba (r:= [.d (dI 0), .d (dI 0), .d (dI 3), .d (dI 4), .d (dI 0), .d (dI 0), .d (dI 0), .d (dI 0), .d (dI 0), .d (dI 0), .d (dI 0), .d (dI 0), .d (dB false), .d (dI 0), .d (dI 0), .d (dI 0), .d (dI 0), .d (dI 0), .d (dI 0), .d (.v (.string ⟨#[]⟩)), .d (.v (.slice none 0 0)), .d (.sl 2 ([kCe].map Ce.c))]) R Pu F9 (by kernel_rfl))) (by kernel_rfl)) (.agg (.cons (.same R) (.cons (.same R) (.cons (.same R) (.cons (.same R) (.cons (.same R) (.cons (.same R) (.cons (.same R) (.cons (.same R) (.cons (.same R) (.cons (.same R) (.cons (.same R) (.cons (.same R) (.cons (.same R) (.cons (.same R) (.cons (.same R) (.cons (.same R) (.cons (.same R) (.cons (.same R) (.cons (.same R) (.cons (.same R) (.cons (.nil 3) (.cons (.same R) (.nil)))))))))))))))))))))))))<|?_
 refine XL.step R (Af (l':= [.d (dI kM.h.site), .d (dI kM.h.num), .d (dI kM.h.m.count), .d (dI kM.h.m.unit), .d (dI kM.h.m.g0), .d (dI kM.h.m.g1), .d (dI kM.h.m.g2), .d (dI kM.h.m.g3), .d (dI kM.h.m.g4), .d (dI kM.h.m.g5), .d (dI kM.h.len), .d (dI kM.h.fifths), .d (dB kM.h.start), .d (dI kM.h.fin), .d (dI kM.h.ends), .d (dI kM.h.jump), .d (dI kM.h.labels), .d (dI kM.h.swing), .d (dI kM.h.brk), .d (.v (.string ⟨kM.h.reh.toArray⟩)), .d (.sl 3 (kM.tempi.map Tm.c)), .d (.sl 2 (kM.cells.map Ce.c))]) R R R R Gu R lb (by kernel_rfl))<|?_
 refine zn<|zt<|?_
 exact Kn R (RV.cells R R R Cj lb R) (R)
theorem Aji:XC Tryz.prog 20 [.agg (Ms.c kM)] (fun r=>r= .tup [.sl 5 (kSl.map Slt.c),dI 0]):=by
 have:=Sb kM Ze Zf
 rw [Ajj,Ajk] at this;exact this
theorem Apn:XC Tryz.prog 21 [.agg (Ms.c kM)] (fun r=>r= .tup [.sl 1 (([0,967680]:List Int).map iv),dI 0]):=by
 have:=Uy kM Ze Zf
 rw [Arp,Ajk] at this;exact this
def kF:Ms:=Ag9 kM Kb 0 (plS kMe 0) (plS Kb 0)
theorem Apm:XC Tryz.prog 28 [.agg (Ms.c kM), .agg (Me.c Kb),dI 0] (fun r=>r= .tup [.agg (Ms.c kF),dI 0]):=by
 have:=Ape kM Kb 0 Ze Zf
 rw [Ast,Ant] at this;exact this
theorem Apl:XC Tryz.prog 15 [.agg (Ms.c kM)] (fun r=>r= .tup [dI 1451520,dI 0]):=by
 have:=Qd kM.h kM.tempi kM.cells
 rw [show mlV kM.h.m kM.h.len=1451520 from Arn,show mlE kM.h.m kM.h.len=0 from Aro] at this;exact this
theorem Amk  :XC Tryz.prog 19 [] (fun r=>r=dB true):=by
 obtain ⟨y,hy,hyl⟩:=Asu
 refine Ap Aea Tryz.func19 R R lb<|zr<|za R R<|znr<|XL.call1 R R (Lx) R<|XL.call1 R R (Aji) R<|zm R R<|zp (As R R R)<|zp (As R R R)<|za R R<|za R R<|znr<|XL.call1 R R (Lx) R<|XL.call1 R R (Apn) R<|?_
 refine zm R R<|zp (As R R R)<|zp (As R R R)<|za R R<|za R R<|znr<|XL.call1 R R (Lx) R<|zp (Ae (s':= .d (.agg (Me.c Kb))) (Ac (Ba R Ah8 Aee R)) (by kernel_rfl))<|XL.call1 R R (Apm) R<|zm R R<|zp (As R R R)<|zp (As R R R)<|?_
 refine XL.step R (Ax 5 (l:= [.d (dI 0), .d (dI 0), .d (dI 0), .d (dI 0), .d (dI 0), .d (dI 0), .d (dI 0), .d (dI 0), .d (dI 0), .d (dI 0), .d (dI 0), .d (dI 0), .d (dB false), .d (dI 0), .d (dI 0), .d (dI 0), .d (dI 0), .d (dI 0), .d (dI 0), .d (.v (.string ⟨#[]⟩)), .d (.v (.slice none 0 0)), .d (.v (.slice none 0 0))]) R F9 (by kernel_rfl))<|?_
 refine XL.step R (Af (l':= [.d (dI kF.h.site), .d (dI kF.h.num), .d (dI kF.h.m.count), .d (dI kF.h.m.unit), .d (dI kF.h.m.g0), .d (dI kF.h.m.g1), .d (dI kF.h.m.g2), .d (dI kF.h.m.g3), .d (dI kF.h.m.g4), .d (dI kF.h.m.g5), .d (dI kF.h.len), .d (dI kF.h.fifths), .d (dB kF.h.start), .d (dI kF.h.fin), .d (dI kF.h.ends), .d (dI kF.h.jump), .d (dI kF.h.labels), .d (dI kF.h.swing), .d (dI kF.h.brk), .d (.v (.string ⟨kF.h.reh.toArray⟩)), .d (.sl 3 (kF.tempi.map Tm.c)), .d (.sl 2 (kF.cells.map Ce.c))]) R R R R Gu R lb (by kernel_rfl))<|?_
 refine za R R<|znr<|XL.call1 R R (Lx) R<|XL.call1 R R (Apl) R<|zm R R<|zp (As R R R)<|zp (As R R R)<|za R R<|za R R<|znr<|zm R R<|zp (Cn (A8 R R R) (R))<|zm R R<|zm R R<|?_
 refine XL.len R R R Tryz.underlying42 fun hl34=>zp (Cn (A8 R R R) (by decide))<|zq R R R<|zm R R<|zm R R<|zp (Aj (k:=1) R R R Cd ((R:kSl[1]? =some ⟨0,0,1,967680,1451520⟩)))<|zp (Ae (s':= .d (.agg (Slt.c (⟨0,0,1,967680,1451520⟩)))) (Bf R R U3 lb) (by kernel_rfl))<|?_
 refine zp (Ae (s':= .d (.agg [dI 0,dI 0,dI 1,dI 967680,dI 1451520])) (Ac (Ba R T0 Jm R)) (by kernel_rfl))<|zp (Ae (s':= .d (dB true)) (Alz R R R) (by kernel_rfl))<|zq R R R<|zm R R<|zm R R<|zp (Cn (A8 R R R) (R))<|zq R R R<|zm R R<|zm R R<|XL.len R R R Tryz.underlying45 fun hl50=>zp (Cn (A8 R R R) (by decide))<|zq R R R<|zm R R<|zm R R<|?_
 refine zp (Aj (k:=1) R R R Cc ((R:([0,967680]:List Int)[1]? =some 967680)))<|zp (Am R R Ai)<|zp (Cn (A8 R R R) (R))<|zq R R R<|zm R R<|zm R R<|zp (Cn (A8 R R R) (R))<|zq R R R<|zm R R<|zp (Aa R R Db)<|zp (Ab R R Ht R R)<|XL.len R R R Tryz.underlying28 fun hl66=>zp (Cn (A8 R R R) (by decide))<|zq R R R<|?_
 refine zm R R<|zp (Aa R R Db)<|zp (Ab R R Ht R R)<|zp (Aj (k:=0) R R R Kg ((R:kF.cells[0]? =some (Cu (plS kMe 0) (plS Kb 0) kCe))))<|zp (Bc R R Ea)<|zp (Am R R Hs)<|XL.len R R R Tryz.underlying76 fun hl75=>zp (Cn (A8 R R R) (by rw [Ajl];rfl))<|zq R R R<|zm R R<|zp (Aa R R Db)<|zp (Ab R R Ht R R)<|?_
 refine zp (Aj (k:=0) R R R Kg ((R:kF.cells[0]? =some (Cu (plS kMe 0) (plS Kb 0) kCe))))<|zp (Bc R R Ea)<|zp (Am R R Hs)<|zp (Aj (k:=1) R R R O8 (hy))<|zp (Bc R R Bv)<|zp (Am R R C9)<|XL.len R R R Tryz.underlying79 fun hl87=>zp (Cn (A8 R R R) (by rw [hyl];rfl))<|zq R R R<|zm R R<|zm R R<|zp (Cn (A8 R R R) (R))<|?_
 exact zq R R R<|zm R R<|zm R R<|zp (Cn (A8 R R R) (R))<|zq R R R<|za R R<|zn<|zt<|z1 R R (R)
end Go.Proofs.YtaafemnkamfgnaaGreat
namespace Go.Proofs.YtaafemnkamfgnaaGreat
open Go.RowKit
def cfE (c:Int):Int:=if c<1∨9<c then 11 else 0
end Go.Proofs.YtaafemnkamfgnaaGreat
namespace Go.Proofs.YtaafemnkamfgnaaGreat
open Go.RowKit
def clF (l:List Cf) (b t:Int):Int:=l.foldl (fun b c=>if c.tk≤t then c.clef else b) b
def Ms.cell (m:Ms) (s:Int):Ce:=(m.cells[s.toNat]?).getD ⟨[], []⟩
def clA (m:Ms) (s b t:Int):Int × Int:=if s<0∨(m.cells.length:Int)≤s then (0,2) else if cfE b≠0 then (0,cfE b) else (clF (m.cell s).clefs b t,0)
end Go.Proofs.YtaafemnkamfgnaaGreat
namespace Go.Proofs.YtaafemnkamfgnaaGreat
open Go.RowKit
def fsE (f:Nat→Int):Nat→Int
 |0=>0
 |n+1=>if fsE f n≠0 then fsE f n else f n
def At5 (L:Int) (l:List Cf) (i:Nat):Int:=
 match l[i]? with
 |none=>0
 |some x=>if cfE x.clef≠0 then cfE x.clef else if x.tk<0∨L≤x.tk then 2 else
  match l[i - 1]? with
  |none=>0
  |some y=>if 0<i∧x.tk≤y.tk then 25 else 0
def Asb (L:Int) (l:List Cf):Int:=fsE (At5 L l) l.length
def vAt (L:Int) (l:List Vo) (i:Nat):Int:=match l[i]? with|none=>0|some v=>vE L v
def ceE (L:Int) (c:Ce):Int:=if Asb L c.clefs≠0 then Asb L c.clefs else if 2<(c.voices.length:Int) then 9 else
 match c.voices[0]? with
 |none=>10
 |some v=>if v.evs.length=0 then 10 else fsE (vAt L c.voices) c.voices.length
def At7 (L:Int) (l:List Ce) (i:Nat):Int:=match l[i]? with|none=>0|some c=>ceE L c
def chE (m:Ms) (n:Int):Int:=if mlE m.h.m m.h.len≠0 then mlE m.h.m m.h.len else if m.h.fifths< -7∨7<m.h.fifths then 2 else if (m.cells.length:Int)≠n then 20 else fsE (At7 (mlV m.h.m m.h.len) m.cells) m.cells.length
theorem Asc {m:Ms} (h:m.evs) {k:Nat} {c:Ce} (hc:m.cells[k]? =some c):∀v∈c.voices,Evs v.evs:=h c (List.mem_of_getElem? hc)
end Go.Proofs.YtaafemnkamfgnaaGreat
namespace Go.Proofs.YtaafemnkamfgnaaGreat
open Go.RowKit
def Slt.z:Slt:=⟨0,0,0,0,0⟩
def Ce.voice (c:Ce) (v:Int):Vo:=(c.voices[v.toNat]?).getD ⟨[], []⟩
def atM (m:Ms) (s v t:Int):Slt × Int:=if mlE m.h.m m.h.len≠0 then (Slt.z,mlE m.h.m m.h.len)
 else if (s<0∨(m.cells.length:Int)≤s)∨(v<0∨((m.cell s).voices.length:Int)≤v)∨((m.cell s).voice v).evs.length=0 then (Slt.z,2)
 else if atE ((m.cell s).voice v) (mlV m.h.m m.h.len) t≠0 then (Slt.z,atE ((m.cell s).voice v) (mlV m.h.m m.h.len) t)
 else (⟨s,v,(atV ((m.cell s).voice v) (mlV m.h.m m.h.len) t).1,(atV ((m.cell s).voice v) (mlV m.h.m m.h.len) t).2,(atV ((m.cell s).voice v) (mlV m.h.m m.h.len) t).2+((ckL ((m.cell s).voice v) (mlV m.h.m m.h.len))[(atV ((m.cell s).voice v) (mlV m.h.m m.h.len) t).1.toNat]?).getD 0⟩,0)
end Go.Proofs.YtaafemnkamfgnaaGreat
namespace Go.Proofs.YtaafemnkamfgnaaGreat
open Go.RowKit
theorem Ap6 {v:Vo} {L:Int} (h:ckE v L=0) (hne:v.evs.length≠0):tot (ckL v L)=L:=by
 have hcl:=Of h
 have h1:Do v L=0:=by
  rw [ckE] at h
  split at h
  ·cases h
  ·exact h
 have h2:ckL v L=Em v L:=by rw [ckL,if_neg (by rw [h];decide)]
 rw [h2]
 rw [h2] at hcl
 apply Classical.byContradiction
 intro h3
 rw [ckE,if_pos ⟨h1,by omega,h3⟩] at h
 cases h
theorem Vj {l:List Int} {k:Nat} (h:k<l.length):(A9 l)[k]? =some (tot (l.take k)):=by rw [A9,List.getElem?_map,List.getElem?_range h];rfl
theorem Ale {i k n:Nat} {L x:Int} {l:List Int} (hx:l[n]? =some x) (hL:tot l=L):Mj i k L (A9 l) n (tot (l.take n))=⟨i,k,n,tot (l.take n),tot (l.take n)+x⟩:=by
 have hn:=(List.getElem?_eq_some_iff.1 hx).1
 by_cases h:n+1<l.length
 ·rw [Sc (Vj h),Md hx]
 ·rw [Aeu (by rw [Ha];omega)]
  have:l.take (n+1)=l:=List.take_of_length_le (by omega)
  have h2:=Md hx
  rw [this,hL] at h2
  rw [h2]
theorem Ajc (m:Ms) (hF:m.fit) (hE:m.evs):XC Tryz.prog 22 [.agg (Ms.c m)] (fun r=>r= .tup [.sl 5 ((slL m).map Slt.c),dI (slE m)]):=by
 have hcl:=hF.cells
 refine Ap Ad7 Tryz.func22 R R lb<|zr<|?_
 refine XL.step R (At 1 (l:= [.d (dI m.h.site), .d (dI m.h.num), .d (dI m.h.m.count), .d (dI m.h.m.unit), .d (dI m.h.m.g0), .d (dI m.h.m.g1), .d (dI m.h.m.g2), .d (dI m.h.m.g3), .d (dI m.h.m.g4), .d (dI m.h.m.g5), .d (dI m.h.len), .d (dI m.h.fifths), .d (dB m.h.start), .d (dI m.h.fin), .d (dI m.h.ends), .d (dI m.h.jump), .d (dI m.h.labels), .d (dI m.h.swing), .d (dI m.h.brk), .d (.v (.string ⟨m.h.reh.toArray⟩)), .d (.sl 3 (m.tempi.map Tm.c)), .d (.sl 2 (m.cells.map Ce.c))]) R R (by kernel_rfl))<|?_
 refine za R R<|za R R<|znr<|zp (Ae (s':= .d (.agg (Ms.c m))) (Ac (Ad R R Cj R lb)) (by kernel_rfl))<|XL.call1 R R (Aje m.h m.tempi m.cells) R<|zm R R<|zp (As R R R)<|zp (As R R R)<|za R R<|za R R<|zn<|zs<|zr<|zm R R<|?_
 refine zp (A5 R R R)<|zn<|?_
 refine zd R (fun c21=> ?_) (fun c21=> ?_)
 refine zr<|zm R R<|za R R<|za R R<|zn<|zt<|?_
 exact A6 R (RV.nil (sz:=5) R R) (RV.tmp R R) (r2s (Yi (Agf (by assumption)) (by assumption)))
 refine zi<|zr<|za R R<|zn<|zs<|zr<|za R R<|zn<|Ah<|Dp 7801 6 49 5 R<|?_
 refine A4 (α:=Nat) (fun k=>k≤m.cells.length∧csE (mlV m.h.m m.h.len) (m.cells.drop k)=csE (mlV m.h.m m.h.len) m.cells) (fun k=>mkF [(1, .ptr 1 0 0),(4, .d (dI (mlV m.h.m m.h.len))),(6, .own 7801),(7, .d (dI k))]) (fun k=>mkH [(1, .box ((Ms.c m).map S.d)),(7801, .row 49 5 ((Ip (mlV m.h.m m.h.len) (m.cells.take k)).map Slt.c))]) (fun k=>m.cells.length - k) (0) (⟨Nat.zero_le _,R⟩) ?_ ?_ ?_
 exact fz ⟨sr,sr,sr,sr,trivial⟩
 exact gz ⟨R,R,trivial⟩
 intro k hk0
 obtain ⟨hk,hce⟩:=hk0
 refine zs<|zr<|zm R R<|zp (Aa R R Db)<|zp (Ab R R Ht R R)<|XL.len R R R Tryz.underlying28 fun hl26=>zp (Au R R R)<|zn<|?_
 refine zd R (fun c27=> ?_) (fun c27=> ?_)
 have hkl:k<m.cells.length:=by omega
 obtain ⟨x,hx⟩:=Az hkl
 have hvl:=(hF.c x (List.mem_of_getElem? hx)).voices
 have hol:=Tj (L:=(mlV m.h.m m.h.len)) (l:=m.cells.take k) (fun c hc=>(hF.c c (List.mem_of_mem_take hc)).voices)
 rw [List.length_take] at hol
 have hEx:=Asc hE hx
 refine zi<|zs<|Ah<|zr<|za R R<|zn<|Ah<|?_
 refine A4 (α:=Nat) (fun j=>j≤x.voices.length∧vsE (mlV m.h.m m.h.len) (x.voices.drop j)=vsE (mlV m.h.m m.h.len) x.voices) (fun j=>mkF [(1, .ptr 1 0 0),(4, .d (dI (mlV m.h.m m.h.len))),(6, .own 7801),(7, .d (dI k)),(8, .d (dI j))]) (fun j=>mkH [(1, .box ((Ms.c m).map S.d)),(7801, .row 49 5 ((Ip (mlV m.h.m m.h.len) (m.cells.take k)++I4 k (mlV m.h.m m.h.len) (x.voices.take j)).map Slt.c))]) (fun j=>x.voices.length - j) (0) (⟨Nat.zero_le _,R⟩) ?_ ?_ ?_
 exact fz ⟨sr,sr,sr,sr,sr,trivial⟩
 exact gz ⟨R,Jh (by simp [I4]),trivial⟩
 intro j hk2
 obtain ⟨hj,hve⟩:=hk2
 refine zs<|zr<|zm R R<|zp (Aa R R Db)<|zp (Ab R R Ht R R)<|zm R R<|zp (Aj R R R Kg (hx))<|zp (Bc R R Ea)<|zp (Am R R Hs)<|XL.len R R R Tryz.underlying76 fun hl37=>zp (Au R R R)<|zn<|?_
 refine zd R (fun c38=> ?_) (fun c38=> ?_)
 have hjl:j<x.voices.length:=by omega
 obtain ⟨w,hy⟩:=Az hjl
 have hEv:=hEx w (List.mem_of_getElem? hy)
 have hvs:=R8 k (mlV m.h.m m.h.len) (x.voices.take j)
 rw [List.length_take] at hvs
 refine zi<|zs<|Ah<|zr<|zp (Aa R R Db)<|zp (Ab R R Ht R R)<|zm R R<|zp (Aj R R R Kg (hx))<|zp (Bc R R Ea)<|zp (Am R R Hs)<|zm R R<|zp (Aj R R R O8 (hy))<|zp (Ae (s':= .d (.agg (Vo.c w))) (Bf R R Aw lb) (by kernel_rfl))<|?_
 refine XL.step R (Ax 9 (l:= [.d (.v (.slice none 0 0)), .d (.v (.slice none 0 0))]) R Bh (by kernel_rfl))<|XL.step R (Af (l':= [.d (.sl 13 (w.evs.map Ev.c)), .d (.sl 4 (w.tups.map Tp.c))]) R R R R Bq R lb (by kernel_rfl))<|zn<|zs<|zr<|zp (Aa R R Bv)<|zp (Ab R R C9 R R)<|XL.len R R R Tryz.underlying79 fun hl52=>zp (A8 R R R)<|zn<|?_
 refine zd R (fun c53=> ?_) (fun c53=> ?_)
 refine Av<|Ag (by kernel_rfl)<|zm R R<|zp (Al R R R (by omega) (by omega))<|za R R<|zn<|?_
 exact An (j+1) (⟨by omega,by rw [←N5 hy (Aqk (by omega))];exact hve⟩) (by omega) (fz ⟨sr,sr,sr,sr,sr,trivial⟩) (gz ⟨rfl,Jh (by rw [Jp hy,vSl,if_pos (by omega),List.append_nil]),trivial⟩)
 refine zi<|zr<|zp (Ae (s':= .d (.agg (Vo.c w))) (Ac (Ad R R Aw R lb)) (by kernel_rfl))<|zm R R<|XL.call1 R R (Q4 _ _ (by assumption)) R<|zm R R<|zp (As R R R)<|zp (As R R R)<|za R R<|za R R<|znr<|zp (Ae (s':= .d (.agg (Vo.c w))) (Ac (Ad R R Aw R lb)) (by kernel_rfl))<|zm R R<|XL.call1 R R (Ahr _ _ (by assumption)) R<|?_
 refine zm R R<|zp (As R R R)<|zp (As R R R)<|za R R<|za R R<|zn<|zs<|zr<|zm R R<|zp (A5 R R R)<|zn<|?_
 refine zd R (fun c67=> ?_) (fun c67=> ?_)
 refine zr<|zm R R<|za R R<|za R R<|zn<|zt<|?_
 exact A6 R (RV.nil (sz:=5) R R) (RV.tmp R R) (r2s (Yi ((Xq (by omega)).trans (hce.symm.trans ((Aki hx (by rw [←hve,Ts hy (by rw [Lc (by omega)];assumption),Lc (by omega)];assumption)).trans (by rw [←hve,Ts hy (by rw [Lc (by omega)];assumption),Lc (by omega)])))) (by assumption)))
 refine zi<|zs<|?_
 have hc0:ckE w (mlV m.h.m m.h.len)=0:=by omega
 have hN:=H9 w (mlV m.h.m m.h.len)
 have hNl:=hN.len
 have honl:=Ha (ckL w (mlV m.h.m m.h.len))
 have hcl2:=Of hc0
 refine Ag (by kernel_rfl)<|za R R<|zn<|Ah<|?_
 refine A4 (α:=Nat) (fun n=>n≤w.evs.length) (fun n=>mkF [(1, .ptr 1 0 0),(4, .d (dI (mlV m.h.m m.h.len))),(6, .own 7801),(7, .d (dI k)),(8, .d (dI j)),(9, .ptr 9 0 0),(10, .d (.sl 1 (B2 (A9 (ckL w (mlV m.h.m m.h.len)))))),(12, .d (.sl 1 (B2 (ckL w (mlV m.h.m m.h.len))))),(14, .d (dI n))]) (fun n=>mkH [(1, .box ((Ms.c m).map S.d)),(9, .box ((Vo.c w).map S.d)),(7801, .row 49 5 (((Ip (mlV m.h.m m.h.len) (m.cells.take k)++I4 k (mlV m.h.m m.h.len) (x.voices.take j))++((A9 (ckL w (mlV m.h.m m.h.len))).take n).mapIdx (Mj k j (mlV m.h.m m.h.len) (A9 (ckL w (mlV m.h.m m.h.len))))).map Slt.c))]) (fun n=>w.evs.length - n) (0) (Nat.zero_le _) ?_ ?_ ?_
 exact fz ⟨sr,sr,sr,sr,sr,sr,sr,sr,sr,trivial⟩
 exact gz ⟨R,R,Jh (by simp),trivial⟩
 intro n hk4
 refine zs<|zr<|zm R R<|zp (Aa R R Bv)<|zp (Ab R R C9 R R)<|XL.len R R R Tryz.underlying79 fun hl72=>zp (Au R R R)<|zm R R<|?_
 refine XL.dec 74 R (fun g74=> ?_) (fun g74=> ?_)
 refine zm R R<|zm R R<|XL.len R R R Tryz.underlying45 fun hl77=>zp (Au R R R)<|zq R R R<|zm R R<|?_
 refine XL.dec 80 R (fun g80=> ?_) (fun g80=> ?_)
 refine zm R R<|zm R R<|XL.len R R R Tryz.underlying45 fun hl83=>zp (Au R R R)<|zq R R R<|zn<|?_
 refine zd R (fun c85=> ?_) (fun c85=> ?_)
 have hnl:n<(ckL w (mlV m.h.m m.h.len)).length:=by omega
 have ha:=Vj hnl
 obtain ⟨b,hb⟩:=Az hnl
 have htt:=Ap6 hc0 (by omega)
 have hbd:=hN.bd b (List.mem_of_getElem? hb)
 have htb:=(hN.take n).tot
 refine zi<|zs<|Ah<|Cp 19 [] (by kernel_rfl) (by kernel_rfl) (by kernel_rfl) (by kernel_rfl) (by decide)<|yp (Ao R (by conv=>lhs;whnf))<|?_
 refine ym R R<|ym R R<|ym R R<|ym R R<|ym R R<|yp (Aj R R R Cc (ha))<|yp (Am R R Ai)<|ym R R<|ym R R<|yp (Aj R R R Cc (ha))<|yp (Am R R Ai)<|ym R R<|ym R R<|yp (Aj R R R Cc (hb))<|?_
 refine yp (Am R R Ai)<|yp (Al R R R (by omega) (by omega))<|yp (Ae (s':= .d (.agg [dI k,dI j,dI n,dI (tot ((ckL w (mlV m.h.m m.h.len)).take n)),dI ((tot ((ckL w (mlV m.h.m m.h.len)).take n))+b)])) (Ac (Ba R T0 Jm R)) (by kernel_rfl))<|ChK.cons R (CStep.slice R Tryz.underlying42 Xp Jm R R (by omega) (by omega))<|?_
 refine ChK.nil ⟨by kernel_rfl, ?_⟩
 refine XL.step R (A7 R Z1 (.own R) (Src.sl (by omega)) (by unfold maxLen;simp;omega) (by simp;omega))<|zp (Ar R (by conv=>lhs;whnf))<|?_
 refine zn<|Ag (by kernel_rfl)<|zm R R<|zp (Al R R R (by omega) (by omega))<|za R R<|zn<|?_
 exact An (n+1) (by omega) (by omega) (fz ⟨sr,sr,sr,sr,sr,sr,sr,sr,sr,trivial⟩) (gz ⟨R,R,I6 (a:=⟨k,j,n,tot ((ckL w (mlV m.h.m m.h.len)).take n),tot ((ckL w (mlV m.h.m m.h.len)).take n)+b⟩) R (by rw [P0 ha,Ale hb htt, ←List.append_assoc]),trivial⟩)
 refine Av<|Ag (by kernel_rfl)<|zm R R<|zp (Al R R R (by omega) (by omega))<|za R R<|zn<|?_
 exact An (j+1) (⟨by omega,by rw [←N5 hy (by rw [Lc (by omega)];omega)];exact hve⟩) (by omega) (fz ⟨sr,sr,sr,sr,sr,trivial⟩) (gz ⟨rfl,Jh (by rw [Jp hy,vSl,if_neg (by omega),show (A9 (ckL w (mlV m.h.m m.h.len))).take n=(A9 (ckL w (mlV m.h.m m.h.len))) from List.take_of_length_le (by omega),List.append_assoc];rfl),trivial⟩)
 refine zk 4 R<|zq R R R<|zn<|A3 (by kernel_rfl) R<|Av<|Ag (by kernel_rfl)<|zm R R<|zp (Al R R R (by omega) (by omega))<|za R R<|zn<|?_
 exact An (j+1) (⟨by omega,by rw [←N5 hy (by rw [Lc (by omega)];omega)];exact hve⟩) (by omega) (fz ⟨sr,sr,sr,sr,sr,trivial⟩) (gz ⟨rfl,Jh (by rw [Jp hy,vSl,if_neg (by omega),show (A9 (ckL w (mlV m.h.m m.h.len))).take n=(A9 (ckL w (mlV m.h.m m.h.len))) from List.take_of_length_le (by omega),List.append_assoc];rfl),trivial⟩)
 refine zk 4 R<|zq R R R<|zm R R<|zk 4 R<|zq R R R<|zn<|A3 (by kernel_rfl) R<|Av<|Ag (by kernel_rfl)<|zm R R<|zp (Al R R R (by omega) (by omega))<|za R R<|zn<|?_
 exact An (j+1) (⟨by omega,by rw [←N5 hy (by rw [Lc (by omega)];omega)];exact hve⟩) (by omega) (fz ⟨sr,sr,sr,sr,sr,trivial⟩) (gz ⟨rfl,Jh (by rw [Jp hy,vSl,if_neg (by omega),show (A9 (ckL w (mlV m.h.m m.h.len))).take n=(A9 (ckL w (mlV m.h.m m.h.len))) from List.take_of_length_le (by omega),List.append_assoc];rfl),trivial⟩)
 refine Av<|Ag (by kernel_rfl)<|zm R R<|zp (Al R R R (by omega) (by omega))<|za R R<|zn<|?_
 exact An (k+1) (⟨by omega,by rw [←Akh hx (by rw [←hve,List.drop_of_length_le (by omega)];rfl)];exact hce⟩) (by omega) (fz ⟨sr,sr,sr,sr,trivial⟩) (gz ⟨rfl,Jh (by rw [Xf hx,show x.voices.take j=x.voices from List.take_of_length_le (by omega)]),trivial⟩)
 refine Av<|zr<|zp (Ao R (by conv=>lhs;whnf))<|?_
 refine zp (Ar R (by conv=>lhs;whnf))<|?_
 refine za R R<|zn<|zt<|B8 (i:=7801) R<|?_
 exact A6 R (RV.tmp R R) (RV.tmp R R) (by rw [show m.cells.take k=m.cells from List.take_of_length_le (by omega)];exact r2s (Aqs ((Xq (by omega)).trans (by rw [←hce,List.drop_of_length_le (by omega)];rfl))))
end Go.Proofs.YtaafemnkamfgnaaGreat
namespace Go.Proofs.YtaafemnkamfgnaaGreat
open Go.RowKit
def Ms.ev (m:Ms) (s:Slt):Ev:=((((m.cell s.staff).voice s.voice).evs)[s.ev.toNat]?).getD restE
def idp (m:Ms) (a b:Int) (s:Slt):Bool:=decide ((m.ev s).site=a∧(m.ev s).num=b)
def fdM (m:Ms) (a b:Int):Slt × Bool:=if slE m≠0∨(a=0∧b=0) then (Slt.z,false) else
 match (slL m).find? (idp m a b) with
 |some s=>(s,true)
 |none=>(Slt.z,false)
def Ms.slot (m:Ms) (s:Slt):Prop:=s∈slL m
end Go.Proofs.YtaafemnkamfgnaaGreat
namespace Go.Proofs.YtaafemnkamfgnaaGreat
open Go.RowKit
set_option maxRecDepth 4000
end Go.Proofs.YtaafemnkamfgnaaGreat
namespace Go.Proofs.YtaafemnkamfgnaaGreat
open Go.RowKit
theorem Ev.eqv_iff {a b:Ev}:a.eqv b↔a=b:=by
 constructor
 ·rintro ⟨⟨h1,h2⟩,h3,h4,h5,h6,h7,h8,h9,h10,h11,h12⟩
  obtain ⟨a1,a2,a3,a4,a5,a6,a7,a8,a9,a10,a11,a12⟩:=a
  obtain ⟨b1,b2,b3,b4,b5,b6,b7,b8,b9,b10,b11,b12⟩:=b
  simp only at h1 h2 h3 h4 h5 h6 h7 h8 h9 h10 h11 h12
  subst h1 h2 h3 h4 h5 h6 h7 h8 h9 h10 h11 h12;rfl
 ·rintro rfl
  exact ⟨⟨rfl,rfl⟩,rfl,rfl,rfl,rfl,rfl,rfl,rfl,rfl,rfl,rfl⟩
instance:DecidableEq Ev:=fun a b=>decidable_of_iff _ Ev.eqv_iff
instance:DecidableEq Vo:=fun a b=>decidable_of_iff (a.evs=b.evs∧a.tups=b.tups) ⟨fun h=>by obtain ⟨x,y⟩:=a;obtain ⟨z,t⟩:=b;obtain ⟨rfl,rfl⟩:=h;rfl,fun h=>by rw [h];exact ⟨rfl,rfl⟩⟩
instance:DecidableEq Ce:=fun a b=>decidable_of_iff (a.clefs=b.clefs∧a.voices=b.voices) ⟨fun h=>by obtain ⟨x,y⟩:=a;obtain ⟨z,t⟩:=b;obtain ⟨rfl,rfl⟩:=h;rfl,fun h=>by rw [h];exact ⟨rfl,rfl⟩⟩
instance:DecidableEq Ms:=fun a b=>decidable_of_iff (a.h=b.h∧a.tempi=b.tempi∧a.cells=b.cells) ⟨fun h=>by obtain ⟨x,y,z⟩:=a;obtain ⟨x',y',z'⟩:=b;obtain ⟨rfl,rfl,rfl⟩:=h;rfl,fun h=>by rw [h];exact ⟨rfl,rfl,rfl⟩⟩
def Mh.f (h:Mh):List D:= [dI h.site,dI h.num,dI h.m.count,dI h.m.unit,dI h.m.g0,dI h.m.g1,dI h.m.g2,dI h.m.g3,dI h.m.g4,dI h.m.g5,dI h.len,dI h.fifths,dB h.start,dI h.fin,dI h.ends,dI h.jump,dI h.labels,dI h.swing,dI h.brk, .v (.string ⟨h.reh.toArray⟩)]
end Go.Proofs.YtaafemnkamfgnaaGreat
namespace Go.Proofs.YtaafemnkamfgnaaGreat
open Go.RowKit
def bEv:Ev:=⟨0,0,3,⟨0,0⟩, [], [],0,0,0, [],0,0⟩
def bVo:Vo:=⟨[bEv], []⟩
def bCe:Ce:=⟨[], [bVo]⟩
def blH (t:Me) (n f:Int):Mh:=Mh.sh (⟨0,0,Me.z,0,f,false,0,0,0,0,0,0, []⟩:Mh) t n
def blM (t:Me) (n f s:Int):Ms:=⟨blH t n f, [],List.replicate s.toNat bCe⟩
def blE (t:Me) (n f s:Int):Int:=if mlE t n≠0 then mlE t n else if f< -7∨7<f∨s<1∨128<s then 2 else 0
def blS (t:Me) (n f s:Int):Ms:=if blE t n f s≠0 then Ms.z else blM t n f s
end Go.Proofs.YtaafemnkamfgnaaGreat
namespace Go.Proofs.YtaafemnkamfgnaaGreat
open Go.RowKit
def idxA {α:Type} (p:α→Bool) (l:List α):Int:=match l.findIdx? p with|some k=>(k:Int)|none=> -1
def Ev.snd (e:Ev):Bool:=decide (e.kind=1∧0<e.heads.length)
def Vo.snd (v:Vo):Bool:=v.evs.any Ev.snd
def Ms.sil (m:Ms) (s:Int):Bool:=if s<0∨(m.cells.length:Int)≤s then true else !((m.cell s).voices.any Vo.snd)
end Go.Proofs.YtaafemnkamfgnaaGreat
namespace Go.Proofs.YtaafemnkamfgnaaGreat
open Go.RowKit
def evI (e:Ev):Id:=⟨e.site,e.num⟩
def voI (v:Vo):List Id:=v.evs.map evI
def Ati (l:List Vo):List Id:=(l.map voI).flatten
def At6 (l:List Ce):List Id:=(l.map fun c=>Ati c.voices).flatten
def idsM (m:Ms):List Id:=⟨m.h.site,m.h.num⟩::At6 m.cells
end Go.Proofs.YtaafemnkamfgnaaGreat
namespace Go.Proofs.YtaafemnkamfgnaaGreat
open Go.RowKit
def Y8 {α:Type} (f:Int→α→α) (g:Int→α→Int):Int→List α→List α
 |_, []=> []
 |b,x::l=>f b x::Y8 f g (g b x) l
def Amu {α:Type} (g:Int→α→Int) (b:Int) (l:List α):Int:=l.foldl g b
def Atu (s b:Int) (e:Ev):Ev:=if e.site=0∧e.num=0 then {e with site:=s,num:=b} else e
def Arb (b:Int) (e:Ev):Int:=if e.site=0∧e.num=0 then b+1 else b
def Att (s b:Int) (v:Vo):Vo:=⟨Y8 (Atu s) Arb b v.evs,v.tups⟩
def Ara (b:Int) (v:Vo):Int:=Amu Arb b v.evs
def Atv (s b:Int) (c:Ce):Ce:=⟨c.clefs,Y8 (Att s) Ara b c.voices⟩
def Arc (b:Int) (c:Ce):Int:=Amu Ara b c.voices
def numM (m:Ms) (s b:Int):Ms:=⟨m.h,m.tempi,Y8 (Atv s) Arc b m.cells⟩
def nxtM (m:Ms) (b:Int):Int:=Amu Arc b m.cells
def At9 (e:Ev):Ev:={e with site:=0,num:=0}
def At8 (v:Vo):Vo:=⟨v.evs.map At9,v.tups⟩
def Aua (c:Ce):Ce:=⟨c.clefs,c.voices.map At8⟩
def anoM (m:Ms):Ms:=⟨{m.h with site:=0,num:=0},m.tempi,m.cells.map Aua⟩
end Go.Proofs.YtaafemnkamfgnaaGreat
namespace Go.Proofs.YtaafemnkamfgnaaGreat
open Go.RowKit
def mapD {α:Type} (f:Int→α→α) (g:Int→α→Int) (b:Int) (l:List α) (k:Nat):List α:=Y8 f g b (l.take k)++l.drop k
end Go.Proofs.YtaafemnkamfgnaaGreat
namespace Go.Proofs.YtaafemnkamfgnaaGreat
open Go.RowKit
def OpG (P:Program) (n:Nat) (ops:Array Oper) (o:Oper) (f:Fr) (h1:Xh) (ids:List Nat) (s:S):Prop:=
 (Be ops f n o.guard=some true∧Acl P o (ev f) h1 ids s)∨(Be ops f n o.guard=some false∧ids= []∧s= .d (.v undef))
structure GOK (P:Program) (n:Nat) (ops:Array Oper) (κ κ2:S→S) (hA hB hC:Xh) (o:Oper) (fA fB fC:Fr) (c:C3) (ids:List Nat) (sA sB sC:S):Prop where
 a:(c= .bf∨c= .fr∨c= .ff)→OpG P n ops o fA hA ids sA∧sB=κ sA
 b:(c= .af∨c= .fr∨c= .fl∨c= .ff)→OpF P n ops o fB hB sB
 l:(c= .fl∨c= .ff)→OpF P n ops o fC hC sC
 k:c≠ .st→sC=κ2 sB
 m:c= .mu→Be ops fA n o.guard=some true∧Hx P n o fA hA 987654 sB κ hB
 s:c= .st→Be ops fB n o.guard=some true∧Hx P n o fB hB 987654 sC κ2 hC
 i:c= .bf∨ids= []
inductive ChG (P:Program) (n:Nat) (ops:Array Oper) (κ κ2:S→S) (hA hB hC:Xh):List Oper→Fr→Fr→Fr→List C3→List (List Nat × S)→List S→List S→Fr→Prop where
 |nil (fA fB fC:Fr):ChG P n ops κ κ2 hA hB hC [] fA fB fC [] [] [] [] fC
 |step {o:Oper} {rest:List Oper} {fA fB fC f':Fr} {c:C3} {ids:List Nat} {sA sB sC:S} {C:List C3} {LA:List (List Nat × S)} {LB LC:List S} (hok:GOK P n ops κ κ2 hA hB hC o fA fB fC c ids sA sB sC) (hr:ChG P n ops κ κ2 hA hB hC rest (A1 fA o.dst sA) (A1 fB o.dst sB) (A1 fC o.dst sC) C LA LB LC f'):
   ChG P n ops κ κ2 hA hB hC (o::rest) fA fB fC (c::C) ((ids,sA)::LA) (sB::LB) (sC::LC) f'
theorem ChG.ok {P:Program} {n:Nat} {ops:Array Oper} {κ κ2:S→S} {hA hB hC:Xh} {l:List Oper} {fA fB fC f':Fr} {C:List C3} {LA:List (List Nat × S)} {LB LC:List S} (hc:ChG P n ops κ κ2 hA hB hC l fA fB fC C LA LB LC f'):
  C.length=l.length∧LA.length=l.length∧LB.length=l.length∧LC.length=l.length∧
  (∀k o c qA sB sC,l[k]? =some o→C[k]? =some c→LA[k]? =some qA→LB[k]? =some sB→LC[k]? =some sC→GOK P n ops κ κ2 hA hB hC o (Ay fA l LA Cw k) (Ay fB l (noI LB) Cw k) (Ay fC l (noI LC) Cw k) c qA.1 qA.2 sB sC)∧Ay fC l (noI LC) Cw l.length=f':=by
 induction hc with
 |nil=>exact ⟨rfl,rfl,rfl,rfl,fun k o c qa qb qc e=>by simp at e,rfl⟩
 | @step o rest fA fB fC f' c ids sA sB sC C LA LB LC hok hr ih=>
  obtain ⟨i1,i2,i3,i6,i4,i5⟩:=ih
  refine ⟨by simp [i1],by simp [i2],by simp [i3],by simp [i6],fun k o' c' qa qb qc h1 h2 h3 h4 h5=> ?_, ?_⟩
  ·cases k with
   |zero=>simp at h1 h2 h3 h4 h5;subst h1 h2 h3 h4 h5;exact hok
   |succ k=>
    have e2:noI (sB::LB)=([],sB)::noI LB:=rfl
    have e3:noI (sC::LC)=([],sC)::noI LC:=rfl
    rw [e2,e3,D6,D6,D6];exact i4 k o' c' qa qb qc (by simpa using h1) (by simpa using h2) (by simpa using h3) (by simpa using h4) (by simpa using h5)
  ·have e2:noI (sC::LC)=([],sC)::noI LC:=rfl
   rw [e2,List.length_cons,D6];exact i5
section
variable (P:Program) (n:Nat) (ops:Array Oper) (pre:List Oper) (p p2:Nat) (fA fB fC:Fr) (hA hB hC:Xh) (LA:List (List Nat × S)) (LB LC:List S) (E:Env)
def Ani (listed:Array Bool) (a:Act) (w:World):Prop:=
 (listed.size=ops.size∧(∀j o e,ops[j]? =some o→listed.getD j false=true→e∈o.after→Region.binds .any e=true→listed.getD e.on false=true)∧∀k,pre.length≤k→listed.getD k false=false)∧
  ((listed.getD p false = false ∧ listed.getD p2 false = false ∧ ∃ H β, Sim E H β hA w ∧ FV n H β a (Ay fA pre LA (fun j => listed.getD j false) pre.length) ∧ ∀ (k : Nat) (q : List Nat × S), LA[k]? = some q → listed.getD k false = false → ∀ i ∈ q.1, β i = none) ∨
   (listed.getD p false=true∧listed.getD p2 false=false∧∃H β,Sim E H β hB w∧FV n H β a (Ay fB pre (noI LB) (fun j=>listed.getD j false) pre.length))∨
   (listed.getD p2 false = true ∧ ∃ H β, Sim E H β hC w ∧ FV n H β a (Ay fC pre (noI LC) (fun j => listed.getD j false) pre.length)))
end
theorem Ajo {P:Program} {n:Nat} {ops:Array Oper} {pre:List Oper} {p p2:Nat} {fA fB fC:Fr} {hA hB hC:Xh} {LA:List (List Nat × S)} {LB LC:List S} {E:Env} {Q:Exit→Act→World→Prop} {κ κ2:S→S} {C:List C3}
  (hops:∀j,j<pre.length→ops[j]? =pre[j]?) (hin:pre.all (inN n)=true) (hreg:Hn ops pre=true) (hf:∀t,fB t=κ (fA t)) (hf2:∀t,fC t=κ2 (fB t)) (hnd:(LA.flatMap (·.1)).Nodup) (hCl:C.length=pre.length) (hAl:LA.length=pre.length) (hBl:LB.length=pre.length) (hCl2:LC.length=pre.length)
  (hok:∀k o c qA sB sC,pre[k]? =some o→C[k]? =some c→LA[k]? =some qA→LB[k]? =some sB→LC[k]? =some sC→GOK P n ops κ κ2 hA hB hC o (Ay fA pre LA Cw k) (Ay fB pre (noI LB) Cw k) (Ay fC pre (noI LC) Cw k) c qA.1 qA.2 sB sC)
  (hp:C[p]? =some .mu) (hp2:C[p2]? =some .st) (hcls:Qv ops p p2 C=true) {listed:Array Bool} {a:Act} {w:World} (hI:Ani n ops pre p p2 fA fB fC hA hB hC LA LB LC E listed a w) {i:Nat} (hi:i∈Region.ready .any ops listed) (hip0:i<pre.length):
  wpOp P ops Q i (fun a' w'=>Ani n ops pre p p2 fA fB fC hA hB hC LA LB LC E (listed.setIfInBounds i true) a' w') a w:=by
 obtain ⟨⟨hsz,hdown,hunp⟩,hcase⟩:=hI
 have hcl:∀k c,C[k]? =some c→match c with|C3.bf=>Ca ops 9 p k=true∧Ca ops 9 p2 k=true|C3.af=>Ca ops 9 k p=true∧Ca ops 9 p2 k=true|C3.fl=>Ca ops 9 k p=true|C3.mu=>k=p∧Ca ops 9 p2 k=true|C3.st=>k=p2∧Ca ops 9 k p=true|C3.ff=>True|C3.fr=>Ca ops 9 p2 k=true:=by
  intro k c hck
  unfold Qv at hcls
  have:=List.all_eq_true.1 hcls k (List.mem_range.2 (List.getElem?_eq_some_iff.1 hck).1)
  rw [hck] at this
  cases c with
  |mu=>simp only [Bool.and_eq_true] at this;exact ⟨Nat.eq_of_beq_eq_true this.1,this.2⟩
  |st=>simp only [Bool.and_eq_true] at this;exact ⟨Nat.eq_of_beq_eq_true this.1,this.2⟩
  |fr=>exact this
  |ff=>trivial
  |fl=>exact this
  |bf=>simpa [Bool.and_eq_true] using this
  |af=>simpa [Bool.and_eq_true] using this
 obtain ⟨hil,hunl,o,ho,hdeps⟩:=En hi
 have hil':i<pre.length:=hip0
 have hol:pre[i]? =some o:=by rw [←hops i hip0];exact ho
 obtain ⟨⟨ids,sA⟩,hLA⟩:∃q,LA[i]? =some q:=⟨_,List.getElem?_eq_getElem (by omega)⟩
 obtain ⟨sC,hLC⟩:∃q,LC[i]? =some q:=⟨_,List.getElem?_eq_getElem (by omega)⟩
 obtain ⟨sB,hLB⟩:∃q,LB[i]? =some q:=⟨_,List.getElem?_eq_getElem (by omega)⟩
 obtain ⟨c,hC'⟩:∃q,C[i]? =some q:=⟨_,List.getElem?_eq_getElem (by omega)⟩
 have hunl':listed.getD i false=false:=by rw [←Gg true (by omega)];exact hunl
 have hdown':∀j o e,ops[j]? =some o→(fun j=>listed.getD j false) j=true→e∈o.after→Region.binds .any e=true→(fun j=>listed.getD j false) e.on=true:=fun j o e h1 h2 h3 h4=>hdown j o e (by simpa using h1) h2 h3 h4
 have hwl:∀d j,Ca ops (d+1) i j=true→listed.getD j false=true:=by
  intro d j hw
  unfold Ca at hw
  rw [ho] at hw
  simp only [List.any_eq_true,Bool.and_eq_true,Bool.or_eq_true] at hw
  obtain ⟨e,he,hb,h2⟩:=hw
  have hl:=hdeps e (by simpa using he) hb
  rcases h2 with h2|h2
  ·rw [←Nat.eq_of_beq_eq_true h2];exact hl
  ·exact B3 hdown' d e.on j h2 hl
 have hlo:∀t,t∈Bm ops o→∀j o',j<i→pre[j]? =some o'→o'.dst=some t→listed.getD j false=true:=by
  intro t ht j o' hj hj' hd
  exact hwl 2 j (Fv hreg hj hj' hol (by unfold Jg;rw [hd];simp [F1 ht]))
 have hhi:∀t,t∈Bm ops o→∀j o',i<j→pre[j]? =some o'→o'.dst=some t→listed.getD j false=false:=by
  intro t ht j o' hj hj' hd
  cases hlj:listed.getD j false with
  |false=>rfl
  |true=>
   have hw:=Fv hreg hj hol hj' (by unfold Jg;rw [hd];simp [F1 ht])
   have:=B3 hdown' 3 j i hw hlj
   rw [hunl'] at this;cases this
 have hcur:∀(f0:Fr) (L:List (List Nat × S)) t,t∈Bm ops o→Ay f0 pre L (fun j=>listed.getD j false) pre.length t=Ay f0 pre L Cw i t:=by
  intro f0 L t ht
  have h1:∀j o',i≤j→pre[j]? =some o'→o'.dst=some t→(fun j=>listed.getD j false) j=false:=by
   intro j o' hj hj' hd
   by_cases e:j=i
   ·subst e;exact hunl'
   ·exact hhi t ht j o' (by omega) hj' hd
  rw [Fd h1 pre.length (by omega),J0 (hlo t ht) i (Nat.le_refl _)]
 have hin':inN n o=true:=List.all_eq_true.1 hin o (List.mem_of_getElem? hol)
 have hoin:=hin'
 unfold inN at hoin
 rw [Bool.and_eq_true] at hoin
 have hopn:∀t,Operand.tmp t∈o.op.operands→t∈Bm ops o:=by
  intro t hx
  unfold Bm Oper.looksAt
  simp only [List.mem_append,List.mem_filterMap]
  exact .inr (.inl ⟨.tmp t,by simpa using hx,rfl⟩)
 have hev:∀(f0:Fr) (L:List (List Nat × S)),∀x∈o.op.operands,ev (Ay f0 pre L (fun j=>listed.getD j false) pre.length) x=ev (Ay f0 pre L Cw i) x:=by
  intro f0 L x hx
  cases x with
  |tmp t=>simp only [ev];exact hcur f0 L t (hopn t hx)
  |_=>rfl
 have hop:∀(f0:Fr) (L:List (List Nat × S)) (H:Hp) (β:Bt),FV n H β a (Ay f0 pre L (fun j=>listed.getD j false) pre.length)→∀x∈o.op.operands,VS H β (a.eval x) (ev (Ay f0 pre L Cw i) x):=by
  intro f0 L H β hfv x hx
  rw [←hev f0 L x hx]
  exact hfv.operands hin' x hx
 have hguard:∀(f0:Fr) (L:List (List Nat × S)) (H:Hp) (β:Bt),FV n H β a (Ay f0 pre L (fun j=>listed.getD j false) pre.length)→∀b,Be ops (Ay f0 pre L Cw i) n o.guard=some b→Region.wanted o (yielded ops a.tmps)=b:=by
  intro f0 L H β hfv b hb
  refine Ga hfv ?_
  rw [←hb]
  unfold Be
  cases hg:o.guard with
  |none=>rfl
  |some g=>
   obtain ⟨j,want⟩:=g
   simp only
   cases ht:(ops[j]?).bind (·.dst) with
   |none=>rfl
   |some t=>
    simp only
    have htn:t∈Bm ops o:=by
     unfold Bm Oper.looksAt
     rw [hg]
     simp only [List.mem_append]
     exact .inr (.inr (by rw [ht];simp))
    rw [hcur f0 L t htn]
 have hlisted':∀j,(listed.setIfInBounds i true).getD j false=if j=i then true else listed.getD j false:=by
  intro j
  by_cases e:j=i
  ·subst e
   simp [Array.getD_eq_getD_getElem?,show j<listed.size by omega]
  ·rw [if_neg e]
   simp [Array.getD_eq_getD_getElem?,Array.getElem?_setIfInBounds_ne (fun h=>e h.symm)]
 have hdown2:∀j o' e,ops[j]? =some o'→(listed.setIfInBounds i true).getD j false=true→e∈o'.after→Region.binds .any e=true→(listed.setIfInBounds i true).getD e.on false=true:=by
  intro j o' e hj hl he hb
  rw [hlisted'] at hl ⊢
  split
  ·rfl
  ·by_cases ej:j=i
   ·subst ej
    rw [ho] at hj;cases hj
    exact hdeps e he hb
   ·rw [if_neg ej] at hl
    exact hdown j o' e hj hl he hb
 have hslot:∀(f0:Fr) (L:List (List Nat × S)) (q:List Nat × S) (H':Hp) (β':Bt) (u:Value),L[i]? =some q→FV n H' β' a (Ay f0 pre L (fun j=>listed.getD j false) pre.length)→VS H' β' u q.2→FV n H' β' (a.put o.dst u) (Ay f0 pre L (fun j=>(listed.setIfInBounds i true).getD j false) pre.length):=by
  intro f0 L q H' β' u hLi hfv' hu
  have hp:=hfv'.put hu o.dst hoin.2
  refine ⟨hp.defers,hp.size,fun t ht=> ?_⟩
  have h1:=hp.slot t ht
  have hsame:∀j,j≠i→(fun j=>(listed.setIfInBounds i true).getD j false) j=(fun j=>listed.getD j false) j:=fun j hj=>by simp only;rw [hlisted',if_neg hj]
  by_cases hd:o.dst=some t
  ·have ht':t∈Bm ops o:=by unfold Bm;simp [hd]
   have e1:Ay f0 pre L (fun j=>(listed.setIfInBounds i true).getD j false) pre.length t=Ay f0 pre L (fun j=>(listed.setIfInBounds i true).getD j false) (i+1) t:=by
    refine Fd (fun j o' hj hj' hd'=> ?_) pre.length (by omega)
    show (listed.setIfInBounds i true).getD j false=false
    rw [hlisted',if_neg (by omega)]
    exact hhi t ht' j o' (by omega) hj' hd'
   have e2:Ay f0 pre L (fun j=>(listed.setIfInBounds i true).getD j false) (i+1) t=q.2:=by
    unfold Ay
    rw [hol,hLi]
    have hb:(listed.setIfInBounds i true).getD i false=true:=by rw [hlisted',if_pos rfl]
    simp only [hb,cond_true,A1,hd,Da,Bg]
   have e3:A1 (Ay f0 pre L (fun j=>listed.getD j false) pre.length) o.dst q.2 t=q.2:=by rw [hd];simp only [A1,Da,Bg,cond_true]
   rw [e1,e2]
   rw [e3] at h1
   exact h1
  ·have e1:=I2 (f:=f0) (L:=L) (lst:=fun j=>listed.getD j false) (t:=t) hsame (fun o' h=>by rw [hol] at h;cases h;exact hd) pre.length
   have e3:A1 (Ay f0 pre L (fun j=>listed.getD j false) pre.length) o.dst q.2 t=Ay f0 pre L (fun j=>listed.getD j false) pre.length t:=by
    cases hdd:o.dst with
    |none=>rfl
    |some t'=>
     have:t'≠t:=fun e=>hd (by rw [hdd,e])
     simp only [A1,Da,Bk this,cond_false]
   rw [e1]
   rw [e3] at h1
   exact h1
 have hsz':(listed.setIfInBounds i true).size=ops.size:=by simpa using hsz
 have hunp2:∀k,pre.length≤k→(listed.setIfInBounds i true).getD k false=false:=fun k hk=>by rw [hlisted',if_neg (by omega)];exact hunp k hk
 have fok:=hok i o c _ _ _ hol hC' hLA hLB hLC
 simp only at fok
 have hcls1:=hcl i c hC'
 have hpp2:p≠p2:=fun e=>by rw [e,hp2] at hp;cases hp
 have hbase:(listed.setIfInBounds i true).size=ops.size∧(∀j o e,ops[j]? =some o→(listed.setIfInBounds i true).getD j false=true→e∈o.after→Region.binds .any e=true→(listed.setIfInBounds i true).getD e.on false=true)∧∀k,pre.length≤k→(listed.setIfInBounds i true).getD k false=false:=⟨hsz',hdown2,hunp2⟩
 have keep:∀j,j≠i→(listed.setIfInBounds i true).getD j false=listed.getD j false:=fun j hj=>by rw [hlisted',if_neg hj]
 have hgB:(noI LB)[i]? =some ([],sB):=Ju hLB
 have hgC:(noI LC)[i]? =some ([],sC):=Ju hLC
 have huniq:=Zk hnd
 have hun2:∀(β β':Bt),(∀(k:Nat) (q:List Nat × S),LA[k]? =some q→listed.getD k false=false→∀i∈q.1,β i=none)→(∀j,j∉ids→β' j=β j)→∀(k:Nat) (q:List Nat × S),LA[k]? =some q→(listed.setIfInBounds i true).getD k false=false→∀j∈q.1,β' j=none:=by
  intro β β' hun hβ' k q hk hl j hj
  rw [hlisted'] at hl
  by_cases e:k=i
  ·rw [if_pos e] at hl;cases hl
  ·rw [if_neg e] at hl
   obtain ⟨q1,q2⟩:=q
   rw [hβ' j (fun hc=>e (huniq k i q1 ids q2 sA j hk hLA hj hc))]
   exact hun k _ hk hl j hj
 unfold wpOp
 rw [ho]
 simp only
 have cas:∀(f0:Fr) (L:List S) (s:S) (hX:Xh) (H:Hp) (β:Bt),L[i]? =some s→OpF P n ops o (Ay f0 pre (noI L) Cw i) hX s→Sim E H β hX w→FV n H β a (Ay f0 pre (noI L) (fun j=>listed.getD j false) pre.length)→
   ∀K:Act→World→Prop,(∀a' w',(∃H' β',Sim E H' β' hX w'∧FV n H' β' a' (Ay f0 pre (noI L) (fun j=>(listed.setIfInBounds i true).getD j false) pre.length))→K a' w')→
   ((Region.wanted o (yielded ops a.tmps)=true∧o.wp P a w K NoQ)∨(Region.wanted o (yielded ops a.tmps)=false∧K (a.put o.dst undef) w)):=by
  intro f0 L s hX H β hL hop' hsim hfv K hK
  rcases hop' with ⟨hw,hcalm⟩|⟨hw,hs0⟩
  ·refine .inl ⟨hguard f0 (noI L) H β hfv _ hw,Cx (hcalm E H β a w hsim (fun _ e=>by cases e) (hop f0 (noI L) H β hfv)) ?_⟩
   rintro a' w' ⟨H',β',u,rfl,k1,k2,k3,_,k5⟩
   exact hK _ _ ⟨H',β',k1,hslot f0 (noI L) ([],s) H' β' u (Ju hL) (hfv.mono k2 k3) k5⟩
  ·exact .inr ⟨hguard f0 (noI L) H β hfv _ hw,hK _ _ ⟨H,β,hsim,hslot f0 (noI L) ([],s) H β undef (Ju hL) hfv (by rw [hs0];exact .d (.v _))⟩⟩
 have fin:∀K:Act→World→Prop,(Region.wanted o (yielded ops a.tmps)=true∧o.wp P a w K NoQ)∨(Region.wanted o (yielded ops a.tmps)=false∧K (a.put o.dst undef) w)→
   if Region.wanted o (yielded ops a.tmps)=true then o.wp P a w K Q∨(o.asks P a w∧LetsOut Q) else K (a.put o.dst undef) w:=by
  intro K h
  rcases h with ⟨h1,h2⟩|⟨h1,h2⟩
  ·rw [if_pos h1];exact .inl (Cx h2 fun _ _ h=>h)
  ·rw [if_neg (by rw [h1];decide)];exact h2
 rcases hcase with ⟨hpn,hpn2,H,β,hsim,hfv,hun⟩|⟨hpy,hpn2,H,β,hsim,hfv⟩|⟨hpy2,H,β,hsim,hfv⟩
 ·by_cases hip:i=p
  ·subst hip
   have:c= .mu:=by rw [hC'] at hp;cases hp;rfl
   subst this
   obtain ⟨k1,k2⟩:=fok.m rfl
   refine fin _ (.inl ⟨hguard fA LA H β hfv _ k1,Cx (k2 _ (hev fA LA) E H β a w hsim hfv (hfv.operands hin')) ?_⟩)
   rintro a' w' ⟨H',β',u,rfl,q1,q2,_,q3⟩
   refine ⟨hbase, .inr (.inl ⟨by rw [hlisted',if_pos rfl],by rw [keep p2 (fun e=>hpp2 e.symm)];exact hpn2,H',β',q1,hslot fB (noI LB) ([],sB) H' β' u hgB ⟨q2.defers,q2.size,fun t ht=> ?_⟩ q3⟩)⟩
   have hrel := M4 (κ := κ) (l := pre) (LA := LA) (LB := noI LB) (lst := fun j => listed.getD j false) (fA := fA) (fB := fB) hf (by rw [noI, List.length_map]; omega) (fun k qa' qb' ha hb hlk => by
    obtain ⟨hb1,_⟩:=P6 hb
    have hkl:k<pre.length:=by rw [←hAl];exact (List.getElem?_eq_some_iff.1 ha).1
    obtain ⟨c',hC2⟩:∃q,C[k]? =some q:=⟨_,List.getElem?_eq_getElem (by omega)⟩
    obtain ⟨sc',hC3⟩:∃q,LC[k]? =some q:=⟨_,List.getElem?_eq_getElem (by omega)⟩
    have hokk:=hok k _ c' _ _ _ (List.getElem?_eq_getElem hkl) hC2 ha hb1 hC3
    have hck:=hcl k c' hC2
    cases c' with
    |bf=>exact (hokk.a (.inl rfl)).2
    |fr=>exact (hokk.a (.inr (.inl rfl))).2
    |ff=>exact (hokk.a (.inr (.inr rfl))).2
    |mu=>
     have:k=i:=hck.1
     subst this
     rw [hunl'] at hlk;cases hlk
    |af=>
     have:=B3 hdown' 9 k i hck.1 hlk
     rw [hunl'] at this;cases this
    |fl=>
     have:=B3 hdown' 9 k i hck hlk
     rw [hunl'] at this;cases this
    |st=>
     have:=B3 hdown' 9 k i hck.2 hlk
     rw [hunl'] at this; cases this) pre.length t
   rw [hrel]
   exact q2.slot t ht
  ·have hnw:Ca ops 9 i p=true→False:=fun h=>by
    have:=hwl 8 p h
    rw [hpn] at this;cases this
   have hcase2:c= .bf∨c= .fr∨c= .ff:=by
    cases c with
    |bf=>exact .inl rfl
    |fr=>exact .inr (.inl rfl)
    |ff=>exact .inr (.inr rfl)
    |mu=>exact absurd hcls1.1 hip
    |af=>exact (hnw hcls1.1).elim
    |fl=>exact (hnw hcls1).elim
    |st=>exact (hnw hcls1.2).elim
   have hip2:i≠p2:=fun e=>by subst e;rw [hC'] at hp2;cases hp2;rcases hcase2 with h|h|h<;>cases h
   have hpn':(listed.setIfInBounds i true).getD p false=false:=by rw [keep p (fun e=>hip e.symm)];exact hpn
   have hpn2':(listed.setIfInBounds i true).getD p2 false=false:=by rw [keep p2 (fun e=>hip2 e.symm)];exact hpn2
   rcases (fok.a hcase2).1 with ⟨hw,hcalm⟩|⟨hw,_,hs0⟩
   ·refine fin _ (.inl ⟨hguard fA LA H β hfv _ hw,Cx (hcalm E H β a w hsim (hun i _ hLA hunl') (hop fA LA H β hfv)) ?_⟩)
    rintro a' w' ⟨H',β',u,rfl,k1,k2,k3,k4,k5⟩
    exact ⟨hbase, .inl ⟨hpn',hpn2',H',β',k1,hslot fA LA _ H' β' u hLA (hfv.mono k2 k3) k5,hun2 β β' hun k4⟩⟩
   ·exact fin _ (.inr ⟨hguard fA LA H β hfv _ hw,hbase, .inl ⟨hpn',hpn2',H,β,hsim,hslot fA LA _ H β undef hLA hfv (by rw [hs0];exact .d (.v _)),hun2 β β hun fun _ _=>rfl⟩⟩)
 ·have hip:i≠p:=fun e=>by subst e;rw [hunl'] at hpy;cases hpy
  by_cases hip2:i=p2
  ·subst hip2
   have:c= .st:=by rw [hC'] at hp2;cases hp2;rfl
   subst this
   obtain ⟨k1,k2⟩:=fok.s rfl
   refine fin _ (.inl ⟨hguard fB (noI LB) H β hfv _ k1,Cx (k2 _ (hev fB (noI LB)) E H β a w hsim hfv (hfv.operands hin')) ?_⟩)
   rintro a' w' ⟨H',β',u,rfl,q1,q2,_,q3⟩
   refine ⟨hbase, .inr (.inr ⟨by rw [hlisted',if_pos rfl],H',β',q1,hslot fC (noI LC) ([],sC) H' β' u hgC ⟨q2.defers,q2.size,fun t ht=> ?_⟩ q3⟩)⟩
   have hrel := M4 (κ := κ2) (l := pre) (LA := noI LB) (LB := noI LC) (lst := fun j => listed.getD j false) (fA := fB) (fB := fC) hf2 (by rw [noI, noI, List.length_map, List.length_map]; omega) (fun k qa' qb' ha hb hlk => by
    obtain ⟨ha1,_⟩:=P6 ha
    obtain ⟨hb1,_⟩:=P6 hb
    have hkl:k<pre.length:=by rw [←hBl];exact (List.getElem?_eq_some_iff.1 ha1).1
    obtain ⟨c',hC2⟩:∃q,C[k]? =some q:=⟨_,List.getElem?_eq_getElem (by omega)⟩
    obtain ⟨sa',hA3⟩:∃q,LA[k]? =some q:=⟨_,List.getElem?_eq_getElem (by omega)⟩
    have hokk:=hok k _ c' _ _ _ (List.getElem?_eq_getElem hkl) hC2 hA3 ha1 hb1
    have hck:=hcl k c' hC2
    refine hokk.k fun e=> ?_
    subst e
    have:k=i:=hck.1
    subst this
    rw [hunl'] at hlk; cases hlk) pre.length t
   rw [hrel]
   exact q2.slot t ht
  ·have hcase2:c= .af∨c= .fr∨c= .fl∨c= .ff:=by
    cases c with
    |af=>exact .inl rfl
    |fr=>exact .inr (.inl rfl)
    |fl=>exact .inr (.inr (.inl rfl))
    |ff=>exact .inr (.inr (.inr rfl))
    |mu=>exact absurd hcls1.1 hip
    |st=>exact absurd hcls1.1 hip2
    |bf=>
     have:=B3 hdown' 9 p i hcls1.1 hpy
     rw [hunl'] at this;cases this
   exact fin _ (cas fB LB sB hB H β hLB (fok.b hcase2) hsim hfv _ fun a' w' ⟨H',β',k1,k2⟩=>⟨hbase, .inr (.inl ⟨by rw [keep p (fun e=>hip e.symm)];exact hpy,by rw [keep p2 (fun e=>hip2 e.symm)];exact hpn2,H',β',k1,k2⟩)⟩)
 ·have hip2:i≠p2:=fun e=>by subst e;rw [hunl'] at hpy2;cases hpy2
  have hnw:Ca ops 9 p2 i=true→False:=fun h=>by
   have:=B3 hdown' 9 p2 i h hpy2
   rw [hunl'] at this;cases this
  have hcase2:c= .fl∨c= .ff:=by
   cases c with
   |fl=>exact .inl rfl
   |ff=>exact .inr rfl
   |af=>exact (hnw hcls1.2).elim
   |fr=>exact (hnw hcls1).elim
   |mu=>exact (hnw hcls1.2).elim
   |st=>exact absurd hcls1.1 hip2
   |bf=>exact (hnw hcls1.2).elim
  exact fin _ (cas fC LC sC hC H β hLC (fok.l hcase2) hsim hfv _ fun a' w' ⟨H',β',k1,k2⟩=>⟨hbase, .inr (.inr ⟨by rw [keep p2 (fun e=>hip2 e.symm)];exact hpy2,H',β',k1,k2⟩)⟩)
theorem An7 {P:Program} {n id:Nat} {pre suf:List Oper} {ops:Array Oper} {K:Co} {f f':Fr} {h hA hB hC:Xh} {κ κ2:S→S} {C:List C3} {LA:List (List Nat × S)} {LB LC:List S} (p p2:Nat) (sites:List Nat) (hopsE:ops=(pre++suf).toArray) (hne:0<suf.length) (hm:P.follows .mixedOrders=true) (hin:pre.all (inN n)=true) (hin2:suf.all (inN n)=true)
  (hreg:Hn ops pre=true) (hS:Mg ops pre.length=true) (hnd:sites.Nodup) (hnew:∀j x,hA j=some x→Ej h sites j=some x∨(j∈sites∧x.isG=false)) (hc:ChG P n ops κ κ2 hA hB hC pre (Dl f sites) (fun t=>κ (Dl f sites t)) (fun t=>κ2 (κ (Dl f sites t))) C LA LB LC f') (hids:LA.flatMap (·.1)=sites) (hp:C[p]? =some .mu) (hp2:C[p2]? =some .st) (hcls:Qv ops p p2 C=true) (hk:XL P n ops suf K f' hC):XW P n (.region id ops true) K f h:=by
 have hops:∀j,j<pre.length→ops[j]? =pre[j]? :=fun j hj=>by rw [hopsE];simp [List.getElem?_append_left hj]
 have hops2:∀j,suf[j]? =ops[pre.length+j]? :=fun j=>by rw [hopsE,List.getElem?_toArray,List.getElem?_append_right (by omega),Nat.add_sub_cancel_left]
 have hsize:ops.size=pre.length+suf.length:=by rw [hopsE];simp
 intro E H β a w hs hf
 obtain ⟨k1,k2,k3,k9,k8,k10⟩:=hc.ok
 have hpl2:p2<pre.length:=by rw [←k1];exact (List.getElem?_eq_some_iff.1 hp2).1
 have hpl:p<pre.length:=by rw [←k1];exact (List.getElem?_eq_some_iff.1 hp).1
 obtain ⟨hI1,hI2⟩:=Ww (n:=n) (ops:=ops) (pre:=pre) (p:=p) (fB:=fun t=>κ (Dl f sites t)) (hA:=hA) (hB:=hB) (LA:=LA) (LB:=LA) (E:=E) sites hs hf (fun j x e=>by rw [hids];exact hnew j x e) hids
 refine Ja (I:=Ani n ops pre p p2 (Dl f sites) (fun t=>κ (Dl f sites t)) (fun t=>κ2 (κ (Dl f sites t))) hA hB hC LA LB LC E) pre.length suf hm hops2 hsize hne hS ⟨hI1, .inl ?_⟩ (fun _ _ _ hI=>hI.1) ?_ ?_
 ·rcases hI2 with ⟨q1,H,β,q2,q3,q4⟩|⟨q1,_⟩
  ·refine ⟨q1, ?_,H,β,q2,q3,q4⟩
   rw [Array.getD_eq_getD_getElem?,Array.getElem?_replicate];split<;>rfl
  ·rw [Array.getD_eq_getD_getElem?,Array.getElem?_replicate] at q1
   split at q1<;>cases q1
 ·intro listed a w hI i hi hip
  exact Ajo hops hin hreg (fun _=>rfl) (fun _=>rfl) (hids ▸ hnd) k1 k2 k3 k9 k8 hp hp2 hcls hI hi hip
 ·rintro listed a w ⟨_,hcase⟩ hall
  rcases hcase with ⟨_,hpn,_⟩|⟨_,hpn,_⟩|⟨_,H,β,hsim,hfv⟩
  ·rw [hall p2 hpl2] at hpn;cases hpn
  ·rw [hall p2 hpl2] at hpn;cases hpn
  ·refine hk hin2 E H β a w hsim ?_
   rw [Pe hall pre.length (Nat.le_refl _),k10] at hfv
   exact hfv
def ChGK (P:Program) (n:Nat) (ops:Array Oper) (κ κ2:S→S) (hA hB hC:Xh) (rest:List Oper) (fA fB fC:Fr) (acc:List C3) (ia:List Nat) (G:List C3→List Nat→Fr→Prop):Prop:=∃C LA LB LC f',ChG P n ops κ κ2 hA hB hC rest fA fB fC C LA LB LC f'∧G (acc++C) (ia++LA.flatMap (·.1)) f'
section
variable {P:Program} {n:Nat} {ops:Array Oper} {κ κ2:S→S} {hA hB hC:Xh} {rest:List Oper} {fA fB fC:Fr} {o:Oper} {s s' s2:S} {acc:List C3} {ia ids:List Nat} {G:List C3→List Nat→Fr→Prop}
theorem ChGK.nil (hg:G acc ia fC):ChGK P n ops κ κ2 hA hB hC [] fA fB fC acc ia G:=⟨[], [], [], [],fC, .nil _ _ _,by simpa using hg⟩
theorem ChGK.step {c:C3} (hok:GOK P n ops κ κ2 hA hB hC o fA fB fC c ids s s' s2) (hr:ChGK P n ops κ κ2 hA hB hC rest (A1 fA o.dst s) (A1 fB o.dst s') (A1 fC o.dst s2) (acc++ [c]) (ia++ids) G):ChGK P n ops κ κ2 hA hB hC (o::rest) fA fB fC acc ia G:=by
 obtain ⟨C,LA,LB,LC,f',k1,k2⟩:=hr
 refine ⟨_,_,_,_,f', .step hok k1, ?_⟩
 rw [List.append_assoc,List.append_assoc] at k2
 exact k2
theorem Y1 {f:Fr} {h:Xh} (hw:Be ops f n o.guard=some true) (hc:CStep P o f h [] s h):OpG P n ops o f h [] s:= .inl ⟨hw,by obtain ⟨_,_,k⟩:=hc;exact k h (HLe.refl _)⟩
theorem ChGK.ff (hw:Be ops fA n o.guard=some true) (hw':Be ops fB n o.guard=some true) (hw2:Be ops fC n o.guard=some true) (hc:CStep P o fA hA [] s hA) (hc':CStep P o fB hB [] s' hB) (hc2:CStep P o fC hC [] s2 hC) (hk:κ s=s') (hk2:κ2 s'=s2) (hr:ChGK P n ops κ κ2 hA hB hC rest (A1 fA o.dst s) (A1 fB o.dst s') (A1 fC o.dst s2) (acc++ [.ff]) (ia++ []) G):ChGK P n ops κ κ2 hA hB hC (o::rest) fA fB fC acc ia G:=
 .step ⟨fun _=>⟨Y1 hw hc,hk.symm⟩,fun _=>Hg hw' hc',fun _=>Hg hw2 hc2,fun _=>hk2.symm,fun e=>absurd e (by decide),fun e=>absurd e (by decide), .inr rfl⟩ hr
theorem ChGK.bf (hw:Be ops fA n o.guard=some true) (hc:CStep P o fA hA [] s hA) (hk:κ s=s') (hk2:κ2 s'=s2) (hr:ChGK P n ops κ κ2 hA hB hC rest (A1 fA o.dst s) (A1 fB o.dst s') (A1 fC o.dst s2) (acc++ [.bf]) (ia++ []) G):ChGK P n ops κ κ2 hA hB hC (o::rest) fA fB fC acc ia G:=
 .step ⟨fun _=>⟨Y1 hw hc,hk.symm⟩,fun e=>absurd e (by decide),fun e=>absurd e (by decide),fun _=>hk2.symm,fun e=>absurd e (by decide),fun e=>absurd e (by decide), .inl rfl⟩ hr
theorem ChGK.bfN {h0:Xh} (hw:Be ops fA n o.guard=some true) (hc:CStep P o fA h0 ids s hA) (hk:κ s=s') (hk2:κ2 s'=s2) (hr:ChGK P n ops κ κ2 hA hB hC rest (A1 fA o.dst s) (A1 fB o.dst s') (A1 fC o.dst s2) (acc++ [.bf]) (ia++ids) G):ChGK P n ops κ κ2 hA hB hC (o::rest) fA fB fC acc ia G:=
 .step ⟨fun _=>⟨.inl ⟨hw,by obtain ⟨_,_,k⟩:=hc;exact k hA (HLe.refl _)⟩,hk.symm⟩,fun e=>absurd e (by decide),fun e=>absurd e (by decide),fun _=>hk2.symm,fun e=>absurd e (by decide),fun e=>absurd e (by decide), .inl rfl⟩ hr
theorem ChGK.fr (hw:Be ops fA n o.guard=some true) (hw':Be ops fB n o.guard=some true) (hc:CStep P o fA hA [] s hA) (hc':CStep P o fB hB [] s' hB) (hk:κ s=s') (hk2:κ2 s'=s2) (hr:ChGK P n ops κ κ2 hA hB hC rest (A1 fA o.dst s) (A1 fB o.dst s') (A1 fC o.dst s2) (acc++ [.fr]) (ia++ []) G):ChGK P n ops κ κ2 hA hB hC (o::rest) fA fB fC acc ia G:=
 .step ⟨fun _=>⟨Y1 hw hc,hk.symm⟩,fun _=>Hg hw' hc',fun e=>absurd e (by decide),fun _=>hk2.symm,fun e=>absurd e (by decide),fun e=>absurd e (by decide), .inr rfl⟩ hr
theorem ChGK.mu {i:Nat} {m:Nat→Option XO→Option XO} (hw:Be ops fA n o.guard=some true) (hc:∀hF,HLe hA hF→Hx P n o fA hF i s' κ (hF.by m)) (hh:HSub (hA.by m) hB) (hk2:κ2 s'=s2) (hr:ChGK P n ops κ κ2 hA hB hC rest (A1 fA o.dst .any) (A1 fB o.dst s') (A1 fC o.dst s2) (acc++ [.mu]) (ia++ []) G):ChGK P n ops κ κ2 hA hB hC (o::rest) fA fB fC acc ia G:=
 .step ⟨fun e => absurd e (by decide), fun e => absurd e (by decide), fun e => absurd e (by decide), fun _ => hk2.symm, fun _ => ⟨hw, fun f' he E H β a w hs hf hop => Cx (hc hA (HLe.refl _) f' he E H β a w hs hf hop) (by
  rintro a' w' ⟨H',β',u,e,k1,k2,_,k3⟩
  exact ⟨H', β', u, e, k1.drop hh, k2, .inl rfl, k3⟩)⟩, fun e => absurd e (by decide), .inr rfl⟩ hr
theorem ChGK.st {i:Nat} {m:Nat→Option XO→Option XO} (hw:Be ops fB n o.guard=some true) (hc:∀hF,HLe hB hF→Hx P n o fB hF i s2 κ2 (hF.by m)) (hh:HSub (hB.by m) hC) (hr:ChGK P n ops κ κ2 hA hB hC rest (A1 fA o.dst .any) (A1 fB o.dst .any) (A1 fC o.dst s2) (acc++ [.st]) (ia++ []) G):ChGK P n ops κ κ2 hA hB hC (o::rest) fA fB fC acc ia G:=
 .step ⟨fun e => absurd e (by decide), fun e => absurd e (by decide), fun e => absurd e (by decide), fun e => absurd rfl e, fun e => absurd e (by decide), fun _ => ⟨hw, fun f' he E H β a w hs hf hop => Cx (hc hB (HLe.refl _) f' he E H β a w hs hf hop) (by
  rintro a' w' ⟨H',β',u,e,k1,k2,_,k3⟩
  exact ⟨H', β', u, e, k1.drop hh, k2, .inl rfl, k3⟩)⟩, .inr rfl⟩ hr
end
theorem Aeg {P:Program} {n id:Nat} {l:List Oper} {K:Co} {f:Fr} {h:Xh} (p p2 q i0:Nat) (x:XO) (κ κ2:S→S) (hB hC:Xh) (hm:P.follows .mixedOrders=true) (hin:l.all (inN n)=true) (hreg:Hn l.toArray (l.take q)=true) (hS:(Nat.blt q l.length && Mg l.toArray q)=true) (hx:x.isG=false)
  (hc:ChGK P n l.toArray κ κ2 ((h.kill i0).set i0 x) hB hC (l.take q) (Dt f i0) (fun t=>κ (Dt f i0 t)) (fun t=>κ2 (κ (Dt f i0 t))) [] [] (fun C ia f'=>(ia= [i0]∧C[p]? =some .mu∧C[p2]? =some .st∧Qv l.toArray p p2 C=true)∧XL P n l.toArray (l.drop q) K f' hC)):XW P n (.region id l.toArray true) K f h:=by
 obtain ⟨C,LA,LB,LC,f',k1,⟨k0,k2,k3,k4⟩,k5⟩:=hc
 rw [Bool.and_eq_true] at hS
 have hp:=El hS.1
 rw [←List.take_append_drop q l,List.all_append,Bool.and_eq_true] at hin
 refine An7 p p2 [i0] (by rw [List.take_append_drop]) (by rw [List.length_drop];omega) hm hin.1 hin.2 hreg (by rw [List.length_take,Nat.min_eq_left (by omega)];exact hS.2) (by simp) (fun j y e=> ?_) k1 (by simpa using k0) k2 k3 k4 k5
 by_cases e':i0=j
 ·subst e'
  rw [Xh.set_same] at e;cases e
  exact .inr ⟨by simp,hx⟩
 ·rw [Xh.set_ne _ _ e'] at e;exact .inl e
theorem Afv {P:Program} {n:Nat} {c:Code} {K:Co} {f:Fr} {h:Xh} (t sz:Nat) (ht:f t= .d (.v (.slice none 0 0))) (hc:XW P n c K (Da f t (.d (.sl sz []))) h):XW P n c K f h:=fun E H β a w hs hf=>by
 by_cases hlt:t<n
 ·refine hc E H β a w hs (Od hf t ?_)
  have e1:=hf.slot t hlt
  rw [ht] at e1
  rw [Dm e1]
  exact .d (.emp none 0 sz (fun _=>rfl) (Nat.zero_le _))
 ·refine hc E H β a w hs ⟨hf.defers,hf.size,fun j hj=> ?_⟩
  have:t≠j:=fun e=>hlt (e ▸ hj)
  simp only [Da,Bk this,cond_false]
  exact hf.slot j hj
end Go.Proofs.YtaafemnkamfgnaaGreat
namespace Go.Proofs.YtaafemnkamfgnaaGreat
open Go.RowKit
def Fl (x:Int):List Int→List Int
 | []=> [x]
 |y::l=>if y<x then y::Fl x l else if y=x then y::l else x::y::l
def Fe (l:List Slt):List Int:=l.foldl (fun out s=>Fl s.on out) []
theorem Zh (x:Int):∀l:List Int,(Fl x l).length≤l.length+1
 | []=>Nat.le_refl _
 |y::l=>by
  have:=Zh x l
  unfold Fl
  split
  ·simp only [List.length_cons];omega
  ·split<;>simp only [List.length_cons]<;>omega
theorem Qu {l:List Slt} {k:Nat} {x:Slt} (h:l[k]? =some x):Fe (l.take (k+1))=Fl x.on (Fe (l.take k)):=by rw [Fe,Bp h,List.foldl_append];rfl
theorem Z7 (l:List Slt):(Fe l).length≤l.length:=by
 have:∀(l:List Slt) (o:List Int),(l.foldl (fun out s=>Fl s.on out) o).length≤o.length+l.length:=by
  intro l
  induction l with
  |nil=>intro o;exact Nat.le_refl _
  |cons s l ih=>intro o;have:=ih (Fl s.on o);have:=Zh s.on o;simp only [List.foldl_cons,List.length_cons];omega
 have:=this l []
 simpa [Fe] using this
theorem Vr {x:Int}:∀{l:List Int} {j:Nat},j≤l.length→(∀i z,i<j→l[i]? =some z→z<x)→(∀z,l[j]? =some z→x<z)→l.take j++x::l.drop j=Fl x l
 | [],j,hj,_,_=>by simp [Fl]
 |y::l,0,_,_,h=>by
  have:=h y rfl
  rw [Fl,if_neg (by omega),if_neg (by omega)];rfl
 |y::l,j+1,hj,h,h2=>by
  have h0:=h 0 y (by omega) rfl
  rw [Fl,if_pos h0,List.take_succ_cons,List.drop_succ_cons,List.cons_append,Vr (l:=l) (j:=j) (by simpa using hj) (fun i z hi hz=>h (i+1) z (by omega) (by simpa using hz)) (fun z hz=>h2 z (by simpa using hz))]
theorem Afa {x:Int}:∀{l:List Int} {j:Nat},(∀i z,i<j→l[i]? =some z→z<x)→l[j]? =some x→l=Fl x l
 | [],j,_,h=>by simp at h
 |y::l,0,_,h=>by
  cases h
  rw [Fl,if_neg (by omega),if_pos rfl]
 |y::l,j+1,h,h2=>by
  have h0:=h 0 y (by omega) rfl
  rw [Fl,if_pos h0, ←Afa (l:=l) (j:=j) (fun i z hi hz=>h (i+1) z (by omega) (by simpa using hz)) (by simpa using h2)]
theorem Ac0 (l:List Slt) (hl:l.length≤3000000000):XC Tryz.prog 23 [.sl 5 (l.map Slt.c)] (fun r=>r= .sl 1 ((Fe l).map iv)):=by
 refine Ap Ad6 Tryz.func23 R R lb<|zr<|za R R<|znr<|za R R<|zn<|zs<|zr<|za R R<|zn<|Ah<|Afv 3 1 R<|?_
 refine A4 (α:=Nat) (fun k=>k≤l.length) (fun k=>mkF [(0, .d (.sl 5 (l.map Slt.c))),(2, .d (.v (.slice none 0 0))),(3, .d (.sl 1 (B2 (Fe (l.take k))))),(4, .d (dI k))]) (fun k=>mkH []) (fun k=>l.length - k) (0) (Nat.zero_le _) ?_ ?_ ?_
 exact fz ⟨sr,sr,sr,sr,trivial⟩
 exact HSub.nil
 intro k hk0
 have hk:=hk0
 refine zs<|zr<|zm R R<|zm R R<|XL.len R R R Tryz.underlying42 fun hl8=>zp (Au R R R)<|zn<|?_
 refine zd R (fun c9=> ?_) (fun c9=> ?_)
 have hkl:k<l.length:=by omega
 obtain ⟨x,hx⟩:=Az hkl
 have hcl:=Z7 (l.take k)
 rw [List.length_take] at hcl
 refine zi<|zs<|Ah<|zr<|za R R<|zn<|zs<|Ah<|?_
 refine A4 (α:=Nat) (fun j=>j≤(Fe (l.take k)).length∧∀i z,i<j→(Fe (l.take k))[i]? =some z→z<x.on) (fun j=>mkF [(0, .d (.sl 5 (l.map Slt.c))),(2, .d (.v (.slice none 0 0))),(3, .d (.sl 1 (B2 (Fe (l.take k))))),(4, .d (dI k)),(5, .d (dI j))]) (fun j=>mkH []) (fun j=>(Fe (l.take k)).length - j) (0) (⟨Nat.zero_le _,fun i z h=>absurd h (Nat.not_lt_zero _)⟩) ?_ ?_ ?_
 exact fz ⟨sr,sr,sr,sr,sr,trivial⟩
 exact HSub.nil
 intro j hk2
 obtain ⟨hj,hlt⟩:=hk2
 refine zs<|zs<|?_
 by_cases q15:(j:Int)<((Fe (l.take k)).length:Int)
 obtain ⟨y,hy⟩:∃y,(Fe (l.take k))[j]? =some y:=Az (by omega)
 refine Bo [] (by kernel_rfl) (by kernel_rfl) (by kernel_rfl) (by decide)<|ym R R<|ym R R<|yp (H6 R R Tryz.underlying45)<|yp (Cn (Au R R R) (q15))<|ym R R<|ym R R<|ym R R<|yp (Aj R R R Cc (hy))<|yp (Am R R Ai)<|ym R R<|ym R R<|yp (Aj R R R Cd (hx))<|yp (Bc R R E5)<|?_
 refine yp (Am R R Ai)<|yp (Au R R R)<|yp (Aq R R (by conv=>lhs;whnf))<|?_
 refine ChK.nil ⟨by kernel_rfl, ?_⟩
 refine zd R (fun c27=> ?_) (fun c27=> ?_)
 refine zi<|Ah<|Ag (by kernel_rfl)<|zm R R<|zp (Al R R R (by omega) (by omega))<|za R R<|zn<|O4<|?_
 exact An (j+1) (⟨by omega,fun i z hi hz=>by by_cases e:i=j;(· subst e;rw [hy] at hz;cases hz;omega);(· exact hlt i z (by omega) hz)⟩) (by omega) (fz ⟨sr,sr,sr,sr,sr,trivial⟩) (HSub.nil)
 refine Av<|zs<|Bo [] (by kernel_rfl) (by kernel_rfl) (by kernel_rfl) (by decide)<|ym R R<|ym R R<|yp (H6 R R Tryz.underlying45)<|yp (Dj (A8 R R R) (by omega))<|ym R R<|ym R R<|ym R R<|yp (Aj R R R Cc (hy))<|yp (Am R R Ai)<|ym R R<|ym R R<|?_
 refine yp (Aj R R R Cd (hx))<|yp (Bc R R E5)<|yp (Am R R Ai)<|yp (A5 R R R)<|yp (Aq R R (by conv=>lhs;whnf))<|?_
 refine ChK.nil ⟨by kernel_rfl, ?_⟩
 refine zd R (fun c45=> ?_) (fun c45=> ?_)
 refine Aeg 4 11 15 46 (.row 3 1 []) (S.kill 46) (S.kill 46) (mkH [(46, .row 3 1 (((Fe (l.take k)).take j).map iv))]) (mkH [(46, .row 3 1 (((Fe (l.take k)).take j++ [x.on]).map iv))]) (by kernel_rfl) (by kernel_rfl) (by kernel_rfl) (by kernel_rfl) R<|ChGK.bfN R (CStep.row0 46 R Tryz.underlying45 D8 R) (by conv=>lhs;whnf) (by conv=>lhs;whnf)<|?_
 refine ChGK.bf R (CStep.pure (Ao R (by conv=>lhs;whnf))) (by conv=>lhs;whnf) (by conv=>lhs;whnf)<|?_
 refine ChGK.bf R (CStep.pure (Ao R (by conv=>lhs;whnf))) (by conv=>lhs;whnf) (by conv=>lhs;whnf)<|?_
 refine ChGK.bf R (CStep.pure (Dv R R Cc Bd.no (Bd.at R) (by omega) (by omega))) (by conv=>lhs;whnf) (by conv=>lhs;whnf)<|?_
 refine ChGK.mu R (Ko (l2:=((Fe (l.take k)).take j).map iv) R Io (.own R) (Src.sl (by omega)) (by unfold maxLen;simp;omega) (by simp;omega) (by rw [List.nil_append,List.drop_zero])) (gz ⟨R,trivial⟩) R<|ChGK.fr R R (CStep.pure (Ao R (by conv=>lhs;whnf))) (CStep.pure (Ao R (by conv=>lhs;whnf))) (by exact rfl) (by exact rfl)<|?_
 refine ChGK.fr R R (CStep.pure (Ao R (by conv=>lhs;whnf))) (CStep.pure (Ao R (by conv=>lhs;whnf))) (by exact rfl) (by exact rfl)<|?_
 refine ChGK.fr R R (CStep.pure (Aj R R R Cd (hx))) (CStep.pure (Aj R R R Cd (hx))) (by exact rfl) (by exact rfl)<|ChGK.fr R R (CStep.pure (Bc R R E5)) (CStep.pure (Bc R R E5)) (by exact rfl) (by exact rfl)<|ChGK.fr R R (CStep.pure (Am R R Ai)) (CStep.pure (Am R R Ai)) (by exact rfl) (by exact rfl)<|?_
 refine ChGK.fr R R (CStep.slice (l:=B2 [x.on]) R Tryz.underlying45 D8 Fo (by kernel_rfl) R (by omega) (by omega)) (CStep.slice (l:=B2 [x.on]) R Tryz.underlying45 D8 Fo (by kernel_rfl) R (by omega) (by omega)) (by exact rfl) (by exact rfl)<|?_
 refine ChGK.st R (Ko (l2:=((Fe (l.take k)).take j++ [x.on]).map iv) R Io (.own R) (Src.sl (by omega)) (by unfold maxLen;simp [B2];omega) (by simp [B2];omega) (by rw [List.map_append];rfl)) (gz ⟨R,trivial⟩)<|?_
 refine ChGK.ff R R R (CStep.pure (Ao R (by conv=>lhs;whnf))) (CStep.pure (Ao R (by conv=>lhs;whnf))) (CStep.pure (Ao R (by conv=>lhs;whnf))) (by exact rfl) (by exact rfl)<|?_
 refine ChGK.ff R R R (CStep.pure (Ao R (by conv=>lhs;whnf))) (CStep.pure (Ao R (by conv=>lhs;whnf))) (CStep.pure (Ao R (by conv=>lhs;whnf))) (by exact rfl) (by exact rfl)<|?_
 refine ChGK.ff R R R (CStep.pure (Dv R R Cc (Bd.at R) Bd.no (by omega) (by omega))) (CStep.pure (Dv R R Cc (Bd.at R) Bd.no (by omega) (by omega))) (CStep.pure (Dv R R Cc (Bd.at R) Bd.no (by omega) (by omega))) (by exact rfl) (by exact rfl)<|?_
 refine ChGK.nil ⟨⟨by kernel_rfl,by kernel_rfl,by kernel_rfl,by kernel_rfl⟩, ?_⟩
 refine XL.step R (A7 R Io (.own R) (Src.sl (by omega)) (by unfold maxLen;simp;omega) (by simp;omega))<|?_
 refine XL.rowq (i:=46) (l':=(Fl x.on (Fe (l.take k))).map iv) R (by rw [←List.map_append,List.take_length,List.append_assoc];exact congrArg (List.map iv) (Vr (by omega) hlt (fun z hz=>by first|(rw [hy] at hz;cases hz;omega)|(have:=(List.getElem?_eq_some_iff.1 hz).1;omega)))) ?_
 refine zp (Ar R (by conv=>lhs;whnf))<|?_
 refine zn<|Ag (by kernel_rfl)<|XL.freeze (i:=46) R<|zm R R<|zp (Al R R R (by omega) (by omega))<|za R R<|zn<|?_
 exact An (k+1) (by omega) (by omega) (fz ⟨sr,sr, .same (by rw [Qu hx];rfl),sr,trivial⟩) (HSub.nil)
 refine zi<|Ag (by kernel_rfl)<|zm R R<|zp (Al R R R (by omega) (by omega))<|za R R<|zn<|?_
 exact An (k+1) (by omega) (by omega) (fz ⟨sr,sr, .same (by rw [Qu hx, ←Afa hlt (by rw [hy,show y=x.on by omega])];rfl),sr,trivial⟩) (HSub.nil)
 refine Bo [] (by kernel_rfl) (by kernel_rfl) (by kernel_rfl) (by decide)<|ym R R<|ym R R<|yp (H6 R R Tryz.underlying45)<|yp (Dj (Au R R R) (q15))<|ym R R<|ChK.skip R<|ChK.skip R<|ChK.skip R<|ChK.skip R<|ChK.skip R<|ChK.skip R<|ChK.skip R<|ChK.skip R<|?_
 refine ChK.skip R<|ChK.skip R<|yp (Aq R R (by conv=>lhs;whnf))<|?_
 refine ChK.nil ⟨by kernel_rfl, ?_⟩
 refine A3 (by kernel_rfl) R<|Av<|zs<|Bo [] (by kernel_rfl) (by kernel_rfl) (by kernel_rfl) (by decide)<|ym R R<|ym R R<|yp (H6 R R Tryz.underlying45)<|yp (Cn (A8 R R R) (by omega))<|ym R R<|ChK.skip R<|ChK.skip R<|ChK.skip R<|ChK.skip R<|ChK.skip R<|?_
 refine ChK.skip R<|ChK.skip R<|ChK.skip R<|ChK.skip R<|ChK.skip R<|yp (Aq R R (by conv=>lhs;whnf))<|?_
 refine ChK.nil ⟨by kernel_rfl, ?_⟩
 refine A0 (by kernel_rfl) R<|Aeg 4 11 15 46 (.row 3 1 []) (S.kill 46) (S.kill 46) (mkH [(46, .row 3 1 (((Fe (l.take k)).take j).map iv))]) (mkH [(46, .row 3 1 (((Fe (l.take k)).take j++ [x.on]).map iv))]) (by kernel_rfl) (by kernel_rfl) (by kernel_rfl) (by kernel_rfl) R<|ChGK.bfN R (CStep.row0 46 R Tryz.underlying45 D8 R) (by conv=>lhs;whnf) (by conv=>lhs;whnf)<|?_
 refine ChGK.bf R (CStep.pure (Ao R (by conv=>lhs;whnf))) (by conv=>lhs;whnf) (by conv=>lhs;whnf)<|?_
 refine ChGK.bf R (CStep.pure (Ao R (by conv=>lhs;whnf))) (by conv=>lhs;whnf) (by conv=>lhs;whnf)<|?_
 refine ChGK.bf R (CStep.pure (Dv R R Cc Bd.no (Bd.at R) (by omega) (by omega))) (by conv=>lhs;whnf) (by conv=>lhs;whnf)<|?_
 refine ChGK.mu R (Ko (l2:=((Fe (l.take k)).take j).map iv) R Io (.own R) (Src.sl (by omega)) (by unfold maxLen;simp;omega) (by simp;omega) (by rw [List.nil_append,List.drop_zero])) (gz ⟨R,trivial⟩) R<|ChGK.fr R R (CStep.pure (Ao R (by conv=>lhs;whnf))) (CStep.pure (Ao R (by conv=>lhs;whnf))) (by exact rfl) (by exact rfl)<|?_
 refine ChGK.fr R R (CStep.pure (Ao R (by conv=>lhs;whnf))) (CStep.pure (Ao R (by conv=>lhs;whnf))) (by exact rfl) (by exact rfl)<|?_
 refine ChGK.fr R R (CStep.pure (Aj R R R Cd (hx))) (CStep.pure (Aj R R R Cd (hx))) (by exact rfl) (by exact rfl)<|ChGK.fr R R (CStep.pure (Bc R R E5)) (CStep.pure (Bc R R E5)) (by exact rfl) (by exact rfl)<|ChGK.fr R R (CStep.pure (Am R R Ai)) (CStep.pure (Am R R Ai)) (by exact rfl) (by exact rfl)<|?_
 refine ChGK.fr R R (CStep.slice (l:=B2 [x.on]) R Tryz.underlying45 D8 Fo (by kernel_rfl) R (by omega) (by omega)) (CStep.slice (l:=B2 [x.on]) R Tryz.underlying45 D8 Fo (by kernel_rfl) R (by omega) (by omega)) (by exact rfl) (by exact rfl)<|?_
 refine ChGK.st R (Ko (l2:=((Fe (l.take k)).take j++ [x.on]).map iv) R Io (.own R) (Src.sl (by omega)) (by unfold maxLen;simp [B2];omega) (by simp [B2];omega) (by rw [List.map_append];rfl)) (gz ⟨R,trivial⟩)<|?_
 refine ChGK.ff R R R (CStep.pure (Ao R (by conv=>lhs;whnf))) (CStep.pure (Ao R (by conv=>lhs;whnf))) (CStep.pure (Ao R (by conv=>lhs;whnf))) (by exact rfl) (by exact rfl)<|?_
 refine ChGK.ff R R R (CStep.pure (Ao R (by conv=>lhs;whnf))) (CStep.pure (Ao R (by conv=>lhs;whnf))) (CStep.pure (Ao R (by conv=>lhs;whnf))) (by exact rfl) (by exact rfl)<|?_
 refine ChGK.ff R R R (CStep.pure (Dv R R Cc (Bd.at R) Bd.no (by omega) (by omega))) (CStep.pure (Dv R R Cc (Bd.at R) Bd.no (by omega) (by omega))) (CStep.pure (Dv R R Cc (Bd.at R) Bd.no (by omega) (by omega))) (by exact rfl) (by exact rfl)<|?_
 refine ChGK.nil ⟨⟨by kernel_rfl,by kernel_rfl,by kernel_rfl,by kernel_rfl⟩, ?_⟩
 refine XL.step R (A7 R Io (.own R) (Src.sl (by omega)) (by unfold maxLen;simp;omega) (by simp;omega))<|?_
 refine XL.rowq (i:=46) (l':=(Fl x.on (Fe (l.take k))).map iv) R (by rw [←List.map_append,List.take_length,List.append_assoc];exact congrArg (List.map iv) (Vr (by omega) hlt (fun z hz=>by first|(rw [hy] at hz;cases hz;omega)|(have:=(List.getElem?_eq_some_iff.1 hz).1;omega)))) ?_
 refine zp (Ar R (by conv=>lhs;whnf))<|?_
 refine zn<|Ag (by kernel_rfl)<|XL.freeze (i:=46) R<|zm R R<|zp (Al R R R (by omega) (by omega))<|za R R<|zn<|?_
 exact An (k+1) (by omega) (by omega) (fz ⟨sr,sr, .same (by rw [Qu hx];rfl),sr,trivial⟩) (HSub.nil)
 exact Av<|zr<|zm R R<|za R R<|zn<|zt<|z1 R R (by rw [show l.take k=l from List.take_of_length_le (by omega)];rfl)
end Go.Proofs.YtaafemnkamfgnaaGreat
namespace Go.Proofs.YtaafemnkamfgnaaGreat
open Go.RowKit
theorem insU_mem {x z:Int}:∀{l:List Int},z∈Fl x l↔z=x∨z∈l
 | []=>by simp [Fl]
 |y::l=>by
  have ih:=insU_mem (x:=x) (z:=z) (l:=l)
  unfold Fl
  split
  ·simp only [List.mem_cons,ih]
   constructor
   ·rintro (h|h|h)
    ·exact .inr (.inl h)
    ·exact .inl h
    ·exact .inr (.inr h)
   ·rintro (h|h|h)
    ·exact .inr (.inl h)
    ·exact .inl h
    ·exact .inr (.inr h)
  ·split
   ·rename_i e
    subst e
    simp only [List.mem_cons]
    constructor
    ·exact fun h=> .inr h
    ·rintro (h|h)
     ·exact .inl h
     ·exact h
   ·simp only [List.mem_cons]
theorem Ae9 {x:Int}:∀{l:List Int},l.Pairwise (· < ·)→(Fl x l).Pairwise (· < ·)
 | [],_=>by simp [Fl]
 |y::l,h=>by
  rw [List.pairwise_cons] at h
  unfold Fl
  split
  ·rename_i hy
   refine List.pairwise_cons.2 ⟨fun z hz=> ?_,Ae9 h.2⟩
   rcases insU_mem.1 hz with e|e
   ·subst e;exact hy
   ·exact h.1 z e
  ·split
   ·exact List.pairwise_cons.2 h
   ·rename_i h1 h2
    have hxy:x<y:=by omega
    refine List.pairwise_cons.2 ⟨fun z hz=> ?_,List.pairwise_cons.2 h⟩
    rcases List.mem_cons.1 hz with e|e
    ·subst e;exact hxy
    ·have:=h.1 z e;omega
theorem Akk (l:List Slt):(Fe l).Pairwise (· < ·)∧∀z,z∈Fe l↔∃s∈l,s.on=z:=by
 have:∀(l:List Slt) (o:List Int),o.Pairwise (· < ·)→(l.foldl (fun out s=>Fl s.on out) o).Pairwise (· < ·)∧∀z,z∈l.foldl (fun out s=>Fl s.on out) o↔z∈o∨∃s∈l,s.on=z:=by
  intro l
  induction l with
  |nil=>intro o ho;exact ⟨ho,fun z=>by simp⟩
  |cons s l ih=>
   intro o ho
   obtain ⟨h1,h2⟩:=ih (Fl s.on o) (Ae9 ho)
   refine ⟨h1,fun z=> ?_⟩
   rw [List.foldl_cons,h2,insU_mem]
   simp only [List.mem_cons]
   constructor
   ·rintro ((h|h)|⟨t,h,h'⟩)
    ·exact .inr ⟨s, .inl rfl,h.symm⟩
    ·exact .inl h
    ·exact .inr ⟨t, .inr h,h'⟩
   ·rintro (h|⟨t,h|h,h'⟩)
    ·exact .inl (.inr h)
    ·subst h;exact .inl (.inl h'.symm)
    ·exact .inr ⟨t,h,h'⟩
 obtain ⟨h1,h2⟩:=this l [] List.Pairwise.nil
 exact ⟨h1,fun z=>(h2 z).trans (by simp)⟩
theorem Ae0:∀{a b:List Int},a.Pairwise (· < ·)→b.Pairwise (· < ·)→(∀x,x∈a↔x∈b)→a=b
 | [], [],_,_,_=>rfl
 | [],y::b,_,_,h=>absurd ((h y).2 List.mem_cons_self) (by simp)
 |x::a, [],_,_,h=>absurd ((h x).1 List.mem_cons_self) (by simp)
 |x::a,y::b,ha,hb,h=>by
  rw [List.pairwise_cons] at ha hb
  have hxy:x=y:=by
   rcases List.mem_cons.1 ((h x).1 List.mem_cons_self) with e|e
   ·exact e
   ·rcases List.mem_cons.1 ((h y).2 List.mem_cons_self) with e'|e'
    ·exact e'.symm
    ·have h1:=hb.1 x e;have h2:=ha.1 y e';omega
  subst hxy
  rw [Ae0 ha.2 hb.2 fun z=> ?_]
  constructor
  ·intro hz
   rcases List.mem_cons.1 ((h z).1 (List.mem_cons_of_mem _ hz)) with e|e
   ·have:=ha.1 z hz;omega
   ·exact e
  ·intro hz
   rcases List.mem_cons.1 ((h z).2 (List.mem_cons_of_mem _ hz)) with e|e
   ·have:=hb.1 z hz;omega
   ·exact e
open Go.Lib in
theorem Z6 (d:Array Int) (hs:∀i j,i≤j→j<d.size→d[i]! ≤d[j]!):∀m,m≤d.size→(compactUpTo d m).Pairwise (· < ·)∧∀x,x∈compactUpTo d m↔∃j,j<m∧d[j]! =x
 |0,_=>⟨by simp [compactUpTo],fun x=>by simp [compactUpTo]⟩
 |m+1,hm=>by
  obtain ⟨h1,h2⟩:=Z6 d hs m (by omega)
  rw [compactUpTo_succ]
  by_cases hk:keeps d m=true
  ·rw [if_pos hk]
   have hk':m=0∨d[m]! ≠d[m - 1]! :=by simpa [keeps] using hk
   refine ⟨List.pairwise_append.2 ⟨h1,by simp,fun x hx y hy=> ?_⟩,fun x=> ?_⟩
   ·rw [List.mem_singleton] at hy
    subst hy
    obtain ⟨j,hj,rfl⟩:=(h2 x).1 hx
    have e1:=hs j (m - 1) (by omega) (by omega)
    have e2:=hs (m - 1) m (by omega) (by omega)
    omega
   ·rw [List.mem_append,h2,List.mem_singleton]
    constructor
    ·rintro (⟨j,hj,e⟩|e)
     ·exact ⟨j,by omega,e⟩
     ·exact ⟨m,by omega,e.symm⟩
    ·rintro ⟨j,hj,e⟩
     by_cases ej:j=m
     ·subst ej;exact .inr e.symm
     ·exact .inl ⟨j,by omega,e⟩
  ·rw [if_neg hk,List.append_nil]
   have hk':¬(m=0∨d[m]! ≠d[m - 1]!):=by simpa [keeps] using hk
   refine ⟨h1,fun x=> ?_⟩
   rw [h2]
   constructor
   ·rintro ⟨j,hj,e⟩;exact ⟨j,by omega,e⟩
   ·rintro ⟨j,hj,e⟩
    by_cases ej:j=m
    ·subst ej
     exact ⟨j - 1,by omega,by rw [←e];exact (Classical.byContradiction fun k=>hk' (.inr k)).symm⟩
    ·exact ⟨j,by omega,e⟩
theorem Alb (zs:List Int):(∀i j,i≤j→j<(srt zs).toArray.size→(srt zs).toArray[i]! ≤(srt zs).toArray[j]!)∧∀x,x∈srt zs↔x∈zs:=by
 have hp:(srt zs).Pairwise (fun x y=>decide (x≤y)=true):=List.pairwise_mergeSort (le:=fun x y=>decide (x≤y)) (fun a b c h1 h2=>by simp only [decide_eq_true_eq] at*;omega) (fun a b=>by simp only [Bool.or_eq_true,decide_eq_true_eq];omega) zs
 refine ⟨fun i j hij hj=> ?_,fun x=>(List.mergeSort_perm zs _).mem_iff⟩
 have hj':j<(srt zs).length:=by simpa using hj
 rw [getElem!_pos _ i (by simp;omega),getElem!_pos _ j (by simpa using hj')]
 simp only [List.getElem_toArray]
 by_cases e:i=j
 ·subst e;exact Int.le_refl _
 ·have:=List.pairwise_iff_getElem.1 hp i j (by omega) hj' (by omega)
  simpa using this
theorem Z8 (m:Ms):Fe (slL m)=Jl m:=by
 obtain ⟨h1,h2⟩:=Akk (slL m)
 obtain ⟨s1,s2⟩:=Alb ((slL m).map (·.on))
 obtain ⟨h3,h4⟩:=Z6 _ s1 _ (Nat.le_refl _)
 have hz:(srt ((slL m).map (·.on))).toArray.size=(srt ((slL m).map (·.on))).length:=by simp
 rw [hz] at h3 h4
 refine Ae0 h1 h3 fun x=> ?_
 rw [h2,show (x∈Jl m↔_) from h4 x]
 have:x∈srt ((slL m).map (·.on))↔∃s∈slL m,s.on=x:=by rw [s2,List.mem_map]
 rw [←this,List.mem_iff_getElem]
 constructor
 ·rintro ⟨j,hj,e⟩
  exact ⟨j,hj,by rw [getElem!_pos _ j (by simpa using hj)];simpa using e⟩
 ·rintro ⟨j,hj,e⟩
  refine ⟨j,hj, ?_⟩
  rw [getElem!_pos _ j (by simpa using hj)] at e
  simpa using e
def Adj {α:Type} (R:α→α→Prop) (l:List α):Prop:=∀k y x,l[k]? =some y→l[k+1]? =some x→R y x
theorem V0 {α:Type} {R:α→α→Prop}:Adj R []:=fun k y x h=>by simp at h
theorem Aqd {α:Type} {R:α→α→Prop} {a b:List α} (ha:Adj R a) (hb:Adj R b) (h:∀y∈a,∀x∈b,R y x):Adj R (a++b):=fun k y x h1 h2=>by
 by_cases c1:k+1<a.length
 ·rw [List.getElem?_append_left (by omega)] at h1
  rw [List.getElem?_append_left c1] at h2
  exact ha k y x h1 h2
 ·by_cases c2:k<a.length
  ·rw [List.getElem?_append_left c2] at h1
   rw [List.getElem?_append_right (by omega)] at h2
   exact h y (List.mem_of_getElem? h1) x (List.mem_of_getElem? h2)
  ·rw [List.getElem?_append_right (by omega)] at h1 h2
   rw [show k+1 - a.length=k - a.length+1 by omega] at h2
   exact hb _ y x h1 h2
theorem Tl {α β:Type} {R:β→β→Prop} {f:Nat→α→List β} {g:β→Int} (h1:∀k x,Adj R (f k x)) (h2:∀k x z,z∈f k x→g z=k) (h3:∀y x,g y≠g x→R y x):∀(l:List α) (s:Nat),Adj R ((l.mapIdx fun k=>f (k+s)).flatten)∧∀z∈(l.mapIdx fun k=>f (k+s)).flatten,(s:Int)≤g z
 | [],s=>⟨V0,fun z hz=>by simp at hz⟩
 |x::l,s=>by
  have e:(fun k=>f (k+1+s))=fun k=>f (k+(s+1)):=by funext k;rw [Nat.add_assoc,Nat.add_comm 1 s]
  obtain ⟨i1,i2⟩:=Tl h1 h2 h3 l (s+1)
  rw [List.mapIdx_cons,List.flatten_cons,e,Nat.zero_add]
  refine ⟨Aqd (h1 _ _) i1 fun y hy z hz=>h3 y z ?_,fun z hz=> ?_⟩
  ·have e1:=h2 _ _ _ hy;have e2:=i2 z hz;omega
  ·rcases List.mem_append.1 hz with hz|hz
   ·have:=h2 _ _ _ hz;omega
   ·have:=i2 z hz;omega
def Rq (y x:Slt):Prop:=x.staff=y.staff→x.voice=y.voice→x.on=y.off
theorem Ald (i k:Nat) (L:Int) (on:List Int):Adj Rq (Ve i k L on):=fun n y x h1 h2 _ _=>by
 rw [Ve,List.getElem?_mapIdx] at h1 h2
 cases ha:on[n]? with
 |none=>rw [ha] at h1;cases h1
 |some a=>
  rw [ha] at h1;cases h1
  cases hb:on[n+1]? with
  |none=>rw [hb] at h2;cases h2
  |some b=>
   rw [hb] at h2;cases h2
   rw [Sc hb];rfl
theorem Alc {i k:Nat} {L:Int} {on:List Int} {z:Slt} (h:z∈Ve i k L on):z.staff=i∧z.voice=k∧∃n:Nat,z.ev=n∧on[n]? =some z.on:=by
 obtain ⟨n,h⟩:=List.getElem?_of_mem h
 rw [Ve,List.getElem?_mapIdx] at h
 cases ha:on[n]? with
 |none=>rw [ha] at h;cases h
 |some a=>rw [ha] at h;cases h;exact ⟨rfl,rfl,n,rfl,ha⟩
theorem U9 {i k:Nat} {L:Int} {v:Vo} {z:Slt} (h:z∈vSl i L k v):z.staff=i∧z.voice=k∧(z.ev=0→z.on=0):=by
 unfold vSl at h
 split at h
 ·cases h
 ·obtain ⟨h1,h2,n,h3,h4⟩:=Alc h
  refine ⟨h1,h2,fun e=> ?_⟩
  have hn:n=0:=by omega
  subst hn
  have hl:=(List.getElem?_eq_some_iff.1 h4).1
  rw [Ha] at hl
  rw [Vj hl] at h4
  have e0:=Option.some.inj h4
  rw [←e0];rfl
theorem Ak2 (i:Nat) (L:Int) (l:List Vo):Adj Rq (I4 i L l):=by
 have := (Tl (R := Rq) (f := vSl i L) (g := (·.voice)) (fun k v => by
  unfold vSl
  split
  ·exact V0
  ·exact Ald _ _ _ _) (fun k v z hz => (U9 hz).2.1) (fun y x h => fun _ e => absurd e.symm h) l 0).1
 simpa [I4] using this
theorem X2 {i:Nat} {L:Int} {l:List Vo} {z:Slt} (h:z∈I4 i L l):z.staff=i∧(z.ev=0→z.on=0):=by
 rw [I4,List.mem_flatten] at h
 obtain ⟨g,h1,h2⟩:=h
 obtain ⟨k,hk⟩:=List.getElem?_of_mem h1
 rw [List.getElem?_mapIdx] at hk
 cases hv:l[k]? with
 |none=>rw [hv] at hk;cases hk
 |some v=>rw [hv] at hk;cases hk;exact ⟨(U9 h2).1,(U9 h2).2.2⟩
theorem Anb (L:Int) (l:List Ce):Adj Rq (Ip L l):=by
 have:=(Tl (R:=Rq) (f:=cSl L) (g:=(·.staff)) (fun k c=>Ak2 _ _ _) (fun k c z hz=>(X2 hz).1) (fun y x h=>fun e _=>absurd e.symm h) l 0).1
 simpa [Ip] using this
theorem Ana {L:Int} {l:List Ce} {z:Slt} (h:z∈Ip L l):z.ev=0→z.on=0:=by
 rw [Ip,List.mem_flatten] at h
 obtain ⟨g,h1,h2⟩:=h
 obtain ⟨k,hk⟩:=List.getElem?_of_mem h1
 rw [List.getElem?_mapIdx] at hk
 cases hv:l[k]? with
 |none=>rw [hv] at hk;cases hk
 |some c=>rw [hv] at hk;cases hk;exact (X2 h2).2
theorem Aot (m:Ms):Adj Rq (slL m):=by
 unfold slL
 split
 ·exact V0
 ·exact Anb _ _
theorem Nj {m:Ms} {z:Slt} (h:z∈slL m):z.ev=0→z.on=0:=by
 unfold slL at h
 split at h
 ·cases h
 ·exact Ana h
theorem Aes {m:Ms} {k:Nat} {y x:Slt} (hy:(slL m)[k - 1]? =some y) (hx:(slL m)[k]? =some x) (hk:0<k) (h1:x.staff=y.staff) (h2:x.voice=y.voice):x.on=y.off:=Aot m (k - 1) y x hy (by rw [Nat.sub_add_cancel hk];exact hx) h1 h2
theorem Apk (m:Ms) (h:(slL m).length≤3000000000):XC Tryz.prog 23 [.sl 5 ((slL m).map Slt.c)] (fun r=>r= .sl 1 ((Jl m).map iv)):=by
 have:=Ac0 (slL m) h
 rw [Z8] at this
 exact this
theorem Ac1 (m:Ms) (hR:m.room) (hE:m.evs):XC Tryz.prog 4 [.agg (Ms.c m)] (fun r=>r=dB true):=by
 have hE2:=All hE
 have hF2:=Alk m
 have hsl:=Aet hF2
 refine Ap Ahl Tryz.func4 R R lb<|zr<|?_
 refine XL.step R (At 1 (l:= [.d (dI m.h.site), .d (dI m.h.num), .d (dI m.h.m.count), .d (dI m.h.m.unit), .d (dI m.h.m.g0), .d (dI m.h.m.g1), .d (dI m.h.m.g2), .d (dI m.h.m.g3), .d (dI m.h.m.g4), .d (dI m.h.m.g5), .d (dI m.h.len), .d (dI m.h.fifths), .d (dB m.h.start), .d (dI m.h.fin), .d (dI m.h.ends), .d (dI m.h.jump), .d (dI m.h.labels), .d (dI m.h.swing), .d (dI m.h.brk), .d (.v (.string ⟨m.h.reh.toArray⟩)), .d (.sl 3 (m.tempi.map Tm.c)), .d (.sl 2 (m.cells.map Ce.c))]) R R (by kernel_rfl))<|?_
 refine za R R<|znr<|zp (Ae (s':= .d (.agg (Ms.c m))) (Ac (Ad R R Cj R lb)) (by kernel_rfl))<|XL.call1 R R (Alg _ (by assumption)) R<|?_
 refine XL.step R (Af (l':= [.d (dI (C5 m).h.site), .d (dI (C5 m).h.num), .d (dI (C5 m).h.m.count), .d (dI (C5 m).h.m.unit), .d (dI (C5 m).h.m.g0), .d (dI (C5 m).h.m.g1), .d (dI (C5 m).h.m.g2), .d (dI (C5 m).h.m.g3), .d (dI (C5 m).h.m.g4), .d (dI (C5 m).h.m.g5), .d (dI (C5 m).h.len), .d (dI (C5 m).h.fifths), .d (dB (C5 m).h.start), .d (dI (C5 m).h.fin), .d (dI (C5 m).h.ends), .d (dI (C5 m).h.jump), .d (dI (C5 m).h.labels), .d (dI (C5 m).h.swing), .d (dI (C5 m).h.brk), .d (.v (.string ⟨(C5 m).h.reh.toArray⟩)), .d (.sl 3 ((C5 m).tempi.map Tm.c)), .d (.sl 2 ((C5 m).cells.map Ce.c))]) R R R R Gu R lb (by kernel_rfl))<|?_
 refine znr<|zp (Ae (s':= .d (.agg (Ms.c (C5 m)))) (Ac (Ad R R Cj R lb)) (by kernel_rfl))<|XL.call1 R R (Sb _ (by assumption) (by assumption)) R<|zm R R<|zp (As R R R)<|zp (As R R R)<|za R R<|za R R<|znr<|zp (Ae (s':= .d (.agg (Ms.c (C5 m)))) (Ac (Ad R R Cj R lb)) (by kernel_rfl))<|?_
 refine XL.call1 R R (Uy _ (by assumption) (by assumption)) R<|zm R R<|zp (As R R R)<|zp (As R R R)<|za R R<|za R R<|znr<|zp (Ae (s':= .d (.agg (Ms.c (C5 m)))) (Ac (Ad R R Cj R lb)) (by kernel_rfl))<|XL.call1 R R (Ajc _ (by assumption) (by assumption)) R<|zm R R<|zp (As R R R)<|zp (As R R R)<|za R R<|za R R<|?_
 refine zn<|zs<|zr<|XL.call1 R R (Amk) R<|zp (Eb R R)<|zm R R<|zm R R<|zm R R<|zp (Dj (A5 R R R) (fun h=>h R))<|zq R R R<|zm R R<|zm R R<|zm R R<|zp (Dj (A5 R R R) (fun h=>h R))<|?_
 refine zq R R R<|zm R R<|zm R R<|XL.len R R R Tryz.underlying42 fun hl43=>zm R R<|XL.len R R R Tryz.underlying42 fun hl45=>zp (Dj (A5 R R R) (fun h=>h R))<|zq R R R<|zn<|A3 (by kernel_rfl) R<|zi<|zs<|zr<|za R R<|?_
 refine zn<|Ah<|?_
 refine A4 (α:=Nat) (fun k=>k≤(slL (C5 m)).length) (fun k=>mkF [(3, .d (.sl 5 ((slL (C5 m)).map Slt.c))),(5, .d (.sl 1 ((Jl (C5 m)).map iv))),(7, .d (.sl 5 ((slL (C5 m)).map Slt.c))),(9, .d (dI k))]) (fun k=>mkH []) (fun k=>(slL (C5 m)).length - k) (0) (Nat.zero_le _) ?_ ?_ ?_
 exact fz ⟨sr,sr,sr,sr,trivial⟩
 exact HSub.nil
 intro k hk0
 have hk:=hk0
 refine zs<|zr<|zm R R<|zm R R<|XL.len R R R Tryz.underlying42 fun hl50=>zp (Au R R R)<|zn<|?_
 refine zd R (fun c51=> ?_) (fun c51=> ?_)
 have hkl:k<(slL (C5 m)).length:=by omega
 obtain ⟨x,hx⟩:=Az hkl
 refine zi<|zs<|Ah<|zs<|zs<|Bo [] (by kernel_rfl) (by kernel_rfl) (by kernel_rfl) (by decide)<|ym R R<|ym R R<|yp (Aj R R R Cd (hx))<|yp (Ae (s':= .d (.agg (Slt.c x))) (Bf R R U3 lb) (by kernel_rfl))<|ym R R<|ym R R<|yp (Aj R R R Cd (hx))<|yp (Ae (s':= .d (.agg (Slt.c x))) (Bf R R U3 lb) (by kernel_rfl))<|?_
 refine yp (Dj (Alu R R R) (by simp))<|?_
 refine ChK.nil ⟨by kernel_rfl, ?_⟩
 refine A3 (by kernel_rfl) R<|zi<|zs<|?_
 by_cases q64:(0:Int)<(k:Int)
 obtain ⟨y,hy⟩:∃y,(slL (C5 m))[k - 1]? =some y:=Az (by omega)
 by_cases q77:(x.staff:Int)=(y.staff:Int)
 by_cases q91:(x.voice:Int)=(y.voice:Int)
 by_cases q113:(x.ev:Int)=(0:Int)
 refine Bo [] (by kernel_rfl) (by kernel_rfl) (by kernel_rfl) (by decide)<|ym R R<|yp (Cn (Bb R R R) (q64))<|ym R R<|ym R R<|ym R R<|yp (Aj R R R Cd (hx))<|yp (Bc R R Fm)<|yp (Am R R Ai)<|ym R R<|ym R R<|yp (Dg R R R (by omega) (by omega))<|yp (Dh R R R (by omega) Cd (hy))<|yp (Bc R R Fm)<|?_
 refine yp (Am R R Ai)<|yp (Cn (A8 R R R) (q77))<|yp (Aq R R (by conv=>lhs;whnf))<|?_
 refine ym R R<|ym R R<|ym R R<|yp (Aj R R R Cd (hx))<|yp (Bc R R Ik)<|yp (Am R R Ai)<|ym R R<|ym R R<|yp (Dg R R R (by omega) (by omega))<|yp (Dh R R R (by omega) Cd (hy))<|yp (Bc R R Ik)<|yp (Am R R Ai)<|yp (Cn (A8 R R R) (q91))<|yp (Aq R R (by conv=>lhs;whnf))<|?_
 refine ym R R<|ym R R<|ym R R<|yp (Aj R R R Cd (hx))<|yp (Bc R R E5)<|yp (Am R R Ai)<|ym R R<|ym R R<|yp (Dg R R R (by omega) (by omega))<|yp (Dh R R R (by omega) Cd (hy))<|yp (Bc R R Zq)<|yp (Am R R Ai)<|yp (Dj (A5 R R R) (fun h=>h (Aes hy hx (by omega) (by assumption) (by assumption))))<|?_
 refine yp (Aq R R (by conv=>lhs;whnf))<|?_
 refine ym R R<|ym R R<|ym R R<|yp (Aj R R R Cd (hx))<|yp (Bc R R Ij)<|yp (Am R R Ai)<|yp (Cn (A8 R R R) (q113))<|ym R R<|ym R R<|ym R R<|yp (Aj R R R Cd (hx))<|yp (Bc R R E5)<|yp (Am R R Ai)<|yp (Dj (A5 R R R) (fun h=>h (Nj (List.mem_of_getElem? hx) (by assumption))))<|?_
 refine yp (Aq R R (by conv=>lhs;whnf))<|?_
 refine yp (Aq R R (by conv=>lhs;whnf))<|?_
 refine ChK.nil ⟨by kernel_rfl, ?_⟩
 refine A3 (by kernel_rfl) R<|zi<|Ag (by kernel_rfl)<|zm R R<|zp (Al R R R (by omega) (by omega))<|za R R<|zn<|?_
 exact An (k+1) (by omega) (by omega) (fz ⟨sr,sr,sr,sr,trivial⟩) (HSub.nil)
 refine Bo [] (by kernel_rfl) (by kernel_rfl) (by kernel_rfl) (by decide)<|ym R R<|yp (Cn (Bb R R R) (q64))<|ym R R<|ym R R<|ym R R<|yp (Aj R R R Cd (hx))<|yp (Bc R R Fm)<|yp (Am R R Ai)<|ym R R<|ym R R<|yp (Dg R R R (by omega) (by omega))<|yp (Dh R R R (by omega) Cd (hy))<|yp (Bc R R Fm)<|?_
 refine yp (Am R R Ai)<|yp (Cn (A8 R R R) (q77))<|yp (Aq R R (by conv=>lhs;whnf))<|?_
 refine ym R R<|ym R R<|ym R R<|yp (Aj R R R Cd (hx))<|yp (Bc R R Ik)<|yp (Am R R Ai)<|ym R R<|ym R R<|yp (Dg R R R (by omega) (by omega))<|yp (Dh R R R (by omega) Cd (hy))<|yp (Bc R R Ik)<|yp (Am R R Ai)<|yp (Cn (A8 R R R) (q91))<|yp (Aq R R (by conv=>lhs;whnf))<|?_
 refine ym R R<|ym R R<|ym R R<|yp (Aj R R R Cd (hx))<|yp (Bc R R E5)<|yp (Am R R Ai)<|ym R R<|ym R R<|yp (Dg R R R (by omega) (by omega))<|yp (Dh R R R (by omega) Cd (hy))<|yp (Bc R R Zq)<|yp (Am R R Ai)<|yp (Dj (A5 R R R) (fun h=>h (Aes hy hx (by omega) (by assumption) (by assumption))))<|?_
 refine yp (Aq R R (by conv=>lhs;whnf))<|?_
 refine ym R R<|ym R R<|ym R R<|yp (Aj R R R Cd (hx))<|yp (Bc R R Ij)<|yp (Am R R Ai)<|yp (Dj (A8 R R R) (q113))<|ym R R<|ChK.skip R<|ChK.skip R<|ChK.skip R<|ChK.skip R<|ChK.skip R<|ChK.skip R<|?_
 refine yp (Aq R R (by conv=>lhs;whnf))<|?_
 refine yp (Aq R R (by conv=>lhs;whnf))<|?_
 refine ChK.nil ⟨by kernel_rfl, ?_⟩
 refine A3 (by kernel_rfl) R<|zi<|Ag (by kernel_rfl)<|zm R R<|zp (Al R R R (by omega) (by omega))<|za R R<|zn<|?_
 exact An (k+1) (by omega) (by omega) (fz ⟨sr,sr,sr,sr,trivial⟩) (HSub.nil)
 by_cases q113:(x.ev:Int)=(0:Int)
 refine Bo [] (by kernel_rfl) (by kernel_rfl) (by kernel_rfl) (by decide)<|ym R R<|yp (Cn (Bb R R R) (q64))<|ym R R<|ym R R<|ym R R<|yp (Aj R R R Cd (hx))<|yp (Bc R R Fm)<|yp (Am R R Ai)<|ym R R<|ym R R<|yp (Dg R R R (by omega) (by omega))<|yp (Dh R R R (by omega) Cd (hy))<|yp (Bc R R Fm)<|?_
 refine yp (Am R R Ai)<|yp (Cn (A8 R R R) (q77))<|yp (Aq R R (by conv=>lhs;whnf))<|?_
 refine ym R R<|ym R R<|ym R R<|yp (Aj R R R Cd (hx))<|yp (Bc R R Ik)<|yp (Am R R Ai)<|ym R R<|ym R R<|yp (Dg R R R (by omega) (by omega))<|yp (Dh R R R (by omega) Cd (hy))<|yp (Bc R R Ik)<|yp (Am R R Ai)<|yp (Dj (A8 R R R) (q91))<|yp (Aq R R (by conv=>lhs;whnf))<|?_
 refine ym R R<|ChK.skip R<|ChK.skip R<|ChK.skip R<|ChK.skip R<|ChK.skip R<|ChK.skip R<|ChK.skip R<|ChK.skip R<|ChK.skip R<|ChK.skip R<|ChK.skip R<|ChK.skip R<|yp (Aq R R (by conv=>lhs;whnf))<|?_
 refine ym R R<|ym R R<|ym R R<|yp (Aj R R R Cd (hx))<|yp (Bc R R Ij)<|yp (Am R R Ai)<|yp (Cn (A8 R R R) (q113))<|ym R R<|ym R R<|ym R R<|yp (Aj R R R Cd (hx))<|yp (Bc R R E5)<|yp (Am R R Ai)<|yp (Dj (A5 R R R) (fun h=>h (Nj (List.mem_of_getElem? hx) (by assumption))))<|?_
 refine yp (Aq R R (by conv=>lhs;whnf))<|?_
 refine yp (Aq R R (by conv=>lhs;whnf))<|?_
 refine ChK.nil ⟨by kernel_rfl, ?_⟩
 refine A3 (by kernel_rfl) R<|zi<|Ag (by kernel_rfl)<|zm R R<|zp (Al R R R (by omega) (by omega))<|za R R<|zn<|?_
 exact An (k+1) (by omega) (by omega) (fz ⟨sr,sr,sr,sr,trivial⟩) (HSub.nil)
 refine Bo [] (by kernel_rfl) (by kernel_rfl) (by kernel_rfl) (by decide)<|ym R R<|yp (Cn (Bb R R R) (q64))<|ym R R<|ym R R<|ym R R<|yp (Aj R R R Cd (hx))<|yp (Bc R R Fm)<|yp (Am R R Ai)<|ym R R<|ym R R<|yp (Dg R R R (by omega) (by omega))<|yp (Dh R R R (by omega) Cd (hy))<|yp (Bc R R Fm)<|?_
 refine yp (Am R R Ai)<|yp (Cn (A8 R R R) (q77))<|yp (Aq R R (by conv=>lhs;whnf))<|?_
 refine ym R R<|ym R R<|ym R R<|yp (Aj R R R Cd (hx))<|yp (Bc R R Ik)<|yp (Am R R Ai)<|ym R R<|ym R R<|yp (Dg R R R (by omega) (by omega))<|yp (Dh R R R (by omega) Cd (hy))<|yp (Bc R R Ik)<|yp (Am R R Ai)<|yp (Dj (A8 R R R) (q91))<|yp (Aq R R (by conv=>lhs;whnf))<|?_
 refine ym R R<|ChK.skip R<|ChK.skip R<|ChK.skip R<|ChK.skip R<|ChK.skip R<|ChK.skip R<|ChK.skip R<|ChK.skip R<|ChK.skip R<|ChK.skip R<|ChK.skip R<|ChK.skip R<|yp (Aq R R (by conv=>lhs;whnf))<|?_
 refine ym R R<|ym R R<|ym R R<|yp (Aj R R R Cd (hx))<|yp (Bc R R Ij)<|yp (Am R R Ai)<|yp (Dj (A8 R R R) (q113))<|ym R R<|ChK.skip R<|ChK.skip R<|ChK.skip R<|ChK.skip R<|ChK.skip R<|ChK.skip R<|?_
 refine yp (Aq R R (by conv=>lhs;whnf))<|?_
 refine yp (Aq R R (by conv=>lhs;whnf))<|?_
 refine ChK.nil ⟨by kernel_rfl, ?_⟩
 refine A3 (by kernel_rfl) R<|zi<|Ag (by kernel_rfl)<|zm R R<|zp (Al R R R (by omega) (by omega))<|za R R<|zn<|?_
 exact An (k+1) (by omega) (by omega) (fz ⟨sr,sr,sr,sr,trivial⟩) (HSub.nil)
 by_cases q113:(x.ev:Int)=(0:Int)
 refine Bo [] (by kernel_rfl) (by kernel_rfl) (by kernel_rfl) (by decide)<|ym R R<|yp (Cn (Bb R R R) (q64))<|ym R R<|ym R R<|ym R R<|yp (Aj R R R Cd (hx))<|yp (Bc R R Fm)<|yp (Am R R Ai)<|ym R R<|ym R R<|yp (Dg R R R (by omega) (by omega))<|yp (Dh R R R (by omega) Cd (hy))<|yp (Bc R R Fm)<|?_
 refine yp (Am R R Ai)<|yp (Dj (A8 R R R) (q77))<|yp (Aq R R (by conv=>lhs;whnf))<|?_
 refine ym R R<|ChK.skip R<|ChK.skip R<|ChK.skip R<|ChK.skip R<|ChK.skip R<|ChK.skip R<|ChK.skip R<|ChK.skip R<|ChK.skip R<|ChK.skip R<|ChK.skip R<|ChK.skip R<|yp (Aq R R (by conv=>lhs;whnf))<|?_
 refine ym R R<|ChK.skip R<|ChK.skip R<|ChK.skip R<|ChK.skip R<|ChK.skip R<|ChK.skip R<|ChK.skip R<|ChK.skip R<|ChK.skip R<|ChK.skip R<|ChK.skip R<|ChK.skip R<|yp (Aq R R (by conv=>lhs;whnf))<|?_
 refine ym R R<|ym R R<|ym R R<|yp (Aj R R R Cd (hx))<|yp (Bc R R Ij)<|yp (Am R R Ai)<|yp (Cn (A8 R R R) (q113))<|ym R R<|ym R R<|ym R R<|yp (Aj R R R Cd (hx))<|yp (Bc R R E5)<|yp (Am R R Ai)<|yp (Dj (A5 R R R) (fun h=>h (Nj (List.mem_of_getElem? hx) (by assumption))))<|?_
 refine yp (Aq R R (by conv=>lhs;whnf))<|?_
 refine yp (Aq R R (by conv=>lhs;whnf))<|?_
 refine ChK.nil ⟨by kernel_rfl, ?_⟩
 refine A3 (by kernel_rfl) R<|zi<|Ag (by kernel_rfl)<|zm R R<|zp (Al R R R (by omega) (by omega))<|za R R<|zn<|?_
 exact An (k+1) (by omega) (by omega) (fz ⟨sr,sr,sr,sr,trivial⟩) (HSub.nil)
 refine Bo [] (by kernel_rfl) (by kernel_rfl) (by kernel_rfl) (by decide)<|ym R R<|yp (Cn (Bb R R R) (q64))<|ym R R<|ym R R<|ym R R<|yp (Aj R R R Cd (hx))<|yp (Bc R R Fm)<|yp (Am R R Ai)<|ym R R<|ym R R<|yp (Dg R R R (by omega) (by omega))<|yp (Dh R R R (by omega) Cd (hy))<|yp (Bc R R Fm)<|?_
 refine yp (Am R R Ai)<|yp (Dj (A8 R R R) (q77))<|yp (Aq R R (by conv=>lhs;whnf))<|?_
 refine ym R R<|ChK.skip R<|ChK.skip R<|ChK.skip R<|ChK.skip R<|ChK.skip R<|ChK.skip R<|ChK.skip R<|ChK.skip R<|ChK.skip R<|ChK.skip R<|ChK.skip R<|ChK.skip R<|yp (Aq R R (by conv=>lhs;whnf))<|?_
 refine ym R R<|ChK.skip R<|ChK.skip R<|ChK.skip R<|ChK.skip R<|ChK.skip R<|ChK.skip R<|ChK.skip R<|ChK.skip R<|ChK.skip R<|ChK.skip R<|ChK.skip R<|ChK.skip R<|yp (Aq R R (by conv=>lhs;whnf))<|?_
 refine ym R R<|ym R R<|ym R R<|yp (Aj R R R Cd (hx))<|yp (Bc R R Ij)<|yp (Am R R Ai)<|yp (Dj (A8 R R R) (q113))<|ym R R<|ChK.skip R<|ChK.skip R<|ChK.skip R<|ChK.skip R<|ChK.skip R<|ChK.skip R<|?_
 refine yp (Aq R R (by conv=>lhs;whnf))<|?_
 refine yp (Aq R R (by conv=>lhs;whnf))<|?_
 refine ChK.nil ⟨by kernel_rfl, ?_⟩
 refine A3 (by kernel_rfl) R<|zi<|Ag (by kernel_rfl)<|zm R R<|zp (Al R R R (by omega) (by omega))<|za R R<|zn<|?_
 exact An (k+1) (by omega) (by omega) (fz ⟨sr,sr,sr,sr,trivial⟩) (HSub.nil)
 by_cases q113:(x.ev:Int)=(0:Int)
 refine Bo [] (by kernel_rfl) (by kernel_rfl) (by kernel_rfl) (by decide)<|ym R R<|yp (Dj (Bb R R R) (q64))<|ym R R<|ChK.skip R<|ChK.skip R<|ChK.skip R<|ChK.skip R<|ChK.skip R<|ChK.skip R<|ChK.skip R<|ChK.skip R<|ChK.skip R<|ChK.skip R<|?_
 refine ChK.skip R<|ChK.skip R<|yp (Aq R R (by conv=>lhs;whnf))<|?_
 refine ym R R<|ChK.skip R<|ChK.skip R<|ChK.skip R<|ChK.skip R<|ChK.skip R<|ChK.skip R<|ChK.skip R<|ChK.skip R<|ChK.skip R<|ChK.skip R<|ChK.skip R<|ChK.skip R<|yp (Aq R R (by conv=>lhs;whnf))<|?_
 refine ym R R<|ChK.skip R<|ChK.skip R<|ChK.skip R<|ChK.skip R<|ChK.skip R<|ChK.skip R<|ChK.skip R<|ChK.skip R<|ChK.skip R<|ChK.skip R<|ChK.skip R<|ChK.skip R<|yp (Aq R R (by conv=>lhs;whnf))<|?_
 refine ym R R<|ym R R<|ym R R<|yp (Aj R R R Cd (hx))<|yp (Bc R R Ij)<|yp (Am R R Ai)<|yp (Cn (A8 R R R) (q113))<|ym R R<|ym R R<|ym R R<|yp (Aj R R R Cd (hx))<|yp (Bc R R E5)<|yp (Am R R Ai)<|yp (Dj (A5 R R R) (fun h=>h (Nj (List.mem_of_getElem? hx) (by assumption))))<|?_
 refine yp (Aq R R (by conv=>lhs;whnf))<|?_
 refine yp (Aq R R (by conv=>lhs;whnf))<|?_
 refine ChK.nil ⟨by kernel_rfl, ?_⟩
 refine A3 (by kernel_rfl) R<|zi<|Ag (by kernel_rfl)<|zm R R<|zp (Al R R R (by omega) (by omega))<|za R R<|zn<|?_
 exact An (k+1) (by omega) (by omega) (fz ⟨sr,sr,sr,sr,trivial⟩) (HSub.nil)
 refine Bo [] (by kernel_rfl) (by kernel_rfl) (by kernel_rfl) (by decide)<|ym R R<|yp (Dj (Bb R R R) (q64))<|ym R R<|ChK.skip R<|ChK.skip R<|ChK.skip R<|ChK.skip R<|ChK.skip R<|ChK.skip R<|ChK.skip R<|ChK.skip R<|ChK.skip R<|ChK.skip R<|?_
 refine ChK.skip R<|ChK.skip R<|yp (Aq R R (by conv=>lhs;whnf))<|?_
 refine ym R R<|ChK.skip R<|ChK.skip R<|ChK.skip R<|ChK.skip R<|ChK.skip R<|ChK.skip R<|ChK.skip R<|ChK.skip R<|ChK.skip R<|ChK.skip R<|ChK.skip R<|ChK.skip R<|yp (Aq R R (by conv=>lhs;whnf))<|?_
 refine ym R R<|ChK.skip R<|ChK.skip R<|ChK.skip R<|ChK.skip R<|ChK.skip R<|ChK.skip R<|ChK.skip R<|ChK.skip R<|ChK.skip R<|ChK.skip R<|ChK.skip R<|ChK.skip R<|yp (Aq R R (by conv=>lhs;whnf))<|?_
 refine ym R R<|ym R R<|ym R R<|yp (Aj R R R Cd (hx))<|yp (Bc R R Ij)<|yp (Am R R Ai)<|yp (Dj (A8 R R R) (q113))<|ym R R<|ChK.skip R<|ChK.skip R<|ChK.skip R<|ChK.skip R<|ChK.skip R<|ChK.skip R<|?_
 refine yp (Aq R R (by conv=>lhs;whnf))<|?_
 refine yp (Aq R R (by conv=>lhs;whnf))<|?_
 refine ChK.nil ⟨by kernel_rfl, ?_⟩
 refine A3 (by kernel_rfl) R<|zi<|Ag (by kernel_rfl)<|zm R R<|zp (Al R R R (by omega) (by omega))<|za R R<|zn<|?_
 exact An (k+1) (by omega) (by omega) (fz ⟨sr,sr,sr,sr,trivial⟩) (HSub.nil)
 refine Av<|zr<|zm R R<|XL.call1 R R (Apk (C5 m) hsl) R<|za R R<|zn<|zs<|zr<|zm R R<|XL.len R R R Tryz.underlying45 fun hl126=>zm R R<|XL.len R R R Tryz.underlying45 fun hl128=>zp (Dj (A5 R R R) (fun h=>h R))<|zn<|?_
 refine A3 (by kernel_rfl) R<|zi<|zs<|zr<|za R R<|zn<|Ah<|?_
 refine A4 (α:=Nat) (fun k=>k≤(Jl (C5 m)).length∧(Jl (C5 m)).length≤3000000000) (fun k=>mkF [(5, .d (.sl 1 ((Jl (C5 m)).map iv))),(10, .d (.sl 1 ((Jl (C5 m)).map iv))),(11, .d (dI k))]) (fun k=>mkH []) (fun k=>(Jl (C5 m)).length - k) (0) (⟨Nat.zero_le _,by rw [←Z8];have:=Z7 (slL (C5 m));omega⟩) ?_ ?_ ?_
 exact fz ⟨sr,sr,sr,trivial⟩
 exact HSub.nil
 intro k hk2
 obtain ⟨hk,hcl⟩:=hk2
 refine zs<|zr<|zm R R<|zm R R<|XL.len R R R Tryz.underlying45 fun hl132=>zp (Au R R R)<|zn<|?_
 refine zd R (fun c133=> ?_) (fun c133=> ?_)
 have hkl:k<(Jl (C5 m)).length:=by omega
 obtain ⟨z,hz⟩:=Az hkl
 refine zi<|zs<|Ah<|zs<|Bo [] (by kernel_rfl) (by kernel_rfl) (by kernel_rfl) (by decide)<|ym R R<|ym R R<|yp (Aj R R R Cc (hz))<|yp (Am R R Ai)<|ym R R<|ym R R<|yp (Aj R R R Cc (hz))<|yp (Am R R Ai)<|yp (Dj (A5 R R R) (fun h=>h R))<|?_
 refine ChK.nil ⟨by kernel_rfl, ?_⟩
 refine A3 (by kernel_rfl) R<|zi<|Ag (by kernel_rfl)<|zm R R<|zp (Al R R R (by omega) (by omega))<|za R R<|zn<|?_
 exact An (k+1) (⟨by omega,by omega⟩) (by omega) (fz ⟨sr,sr,sr,trivial⟩) (HSub.nil)
 exact Av<|zr<|za R R<|zn<|zt<|z1 R R (R)
end Go.Proofs.YtaafemnkamfgnaaGreat
