/- Part 7 of what the statements need: lemmas and walks. -/
import Derived.RangeFuncNested
import Derived.RangeFuncBound
import Derived.RangeFuncCalls
import Derived.RangeFuncLeaves
import Derived.Shelf.Abstract
import Derived.Shelf.RegionOpen
import Derived.OwnWalkIn
import Derived.TacticsInMore
import Derived.LoopNIn
import Derived.LoopIn
import Derived.Test.YtcihalbakenleaaGreatRs6
set_option linter.unusedVariables false
set_option linter.unusedSimpArgs false
set_option linter.unusedSectionVars false
set_option maxRecDepth 20000
set_option maxHeartbeats 8000000
namespace Go.Proofs.YtcihalbakenleaaGreat
open Go.RowKit Go.Shelf
attribute [local go_sem] Oper.semAt_some
def Fq (q:Nat):Val:=⟨(q / 4:Nat) - 1,(q % 4:Nat)⟩
def allQ:List (Fin 40):=List.ofFn fun q=>q
def U8:List Val:=allQ.map fun q=>Fq q.1
def Xo (q:Fin 40):Array Value:= #[.agg #[.int .i64 (Fq q.1).log, .int .i64 (Fq q.1).dots]]
theorem Alo {q:Nat} (h:q<40):allQ[q]? =some ⟨q,h⟩:=by rw [allQ,List.getElem?_ofFn,dif_pos h]
theorem Aji {q:Nat} (h:q<40):allQ.take q++ [⟨q,h⟩]=allQ.take (q+1):=(Bp (Alo h)).symm
theorem Abs:allQ.length=40:=by rw [allQ,List.length_ofFn]
theorem Xp {q:Nat} (h:q<40): -1≤(Fq q).log∧(Fq q).log≤8∧0≤(Fq q).dots∧(Fq q).dots≤3:=by simp only [Fq];omega
set_option maxRecDepth 100000 in
set_option maxHeartbeats 4000000 in
theorem Amp (F:Fence) (n:Nat) (h6:F.fn 182) (hro:F.round=none) (hn:1≤n) (l n₀:Nat) (J Jx:List (Fin 40)→World→Prop)
    (hY : ∀ pre x W, J pre W → pre.length < 40 → YieldAt F (n - 1) Tryz.prog l (Xo x) W fun e W' =>
      (e = .returned (.bool true) ∧ J (pre ++ [x]) W' ∧ Below n₀ W W') ∨ (e = .returned (.bool false) ∧ Jx (pre ++ [x]) W'))
    (W:World) (h0:J [] W):
    CallsIn F n Tryz.prog 182 #[.func (.yield l) #[] #[]] W fun e W'=>(∃v,e= .returned v)∧
      ((∃ys,ys=allQ∧J ys W')∨(∃pre,pre<+:allQ∧Jx pre W')):=by
  refine callsIn_of_wp Tryz.func182 rfl h6 ?_ hro
  simp only [Tryz.ntmps182,List.size_toArray,List.length_cons,List.length_nil,Nat.reduceAdd,Nat.reduceSub,Array.replicate_succ,Array.replicate_zero,List.push_toArray,List.append_toArray,List.nil_append,List.cons_append]
  gi_wp2
  gi_loopw [2] (fun p wr=>∃k:Nat,p= .int .i64 ((k:Int) - 1)∧k≤10∧J (allQ.take (4*k)) wr) (fun p _=>10 - (intOf p+1).toNat)
  case atStart=>exact ⟨0,by simp,by omega,h0⟩
  case round=>
    obtain ⟨k,rfl,hk,hJ⟩:=hrel
    rcases Nat.lt_or_ge k 10 with hk10|hk10
    · have hlt:(k:Int) - 1≤8:=by omega
      gi_wp2
      gi_loopw [8] (fun p wr=>∃j:Nat,p= .int .i64 (j:Int)∧j≤4∧J (allQ.take (4*k+j)) wr) (fun p _=>4 - (intOf p).toNat)
      case atStart=>exact ⟨0,rfl,by omega,hJ⟩
      case round=>
        obtain ⟨j,rfl,hj,hJ2⟩:=hrel
        rcases Nat.lt_or_ge j 4 with hj4|hj4
        · have hlt2:(j:Int)<4:=by omega
          have hq:4*k+j<40:=by omega
          obtain ⟨fn,tmps,assign,body,hy,hR⟩:=hY _ ⟨4*k+j,hq⟩ _ hJ2 (by rw [List.length_take,Abs];omega)
          have he:Xo ⟨4*k+j,hq⟩= #[.agg #[.int .i64 ((k:Int) - 1), .int .i64 (j:Int)]]:=by
            have e1:(4*k+j) / 4=k:=by omega
            have e2:(4*k+j) % 4=j:=by omega
            simp only [Xo,Fq,e1,e2]
          rw [he] at hy
          rw [Aji hq] at hR
          gi_wp2
          refine hR.mono ?_
          rintro e W1 (⟨rfl,hJ1,_⟩|⟨rfl,hx1⟩)
          · gi_wp2
            go_roundw
            case rel=>exact ⟨j+1,by congr 1,by omega,hJ1⟩
            case measure=>simp only [intOf];omega
          · gi_wp2
            refine bodyPost_ret (results_none rfl _ _ _) rfl ?_
            exact ⟨⟨_,rfl⟩, .inr ⟨_,List.take_prefix _ _,hx1⟩⟩
        · have hj':j=4:=by omega
          subst hj'
          gi_wp2
          go_roundw
          case rel=>exact ⟨k+1,by congr 1;omega,by omega,hJ2⟩
          case measure=>simp only [intOf];omega
    · have hk':k=10:=by omega
      subst hk'
      gi_wp2
      go_end0
      exact ⟨⟨_,rfl⟩, .inl ⟨_,by rw [List.take_of_length_le (by rw [Abs];exact Nat.le_refl _)],hJ⟩⟩
theorem Afi (F:Fence) (n:Nat) (h6:F.fn 182) (hro:F.round=none) (hn:1≤n) (n₀:Nat) (w:World):
    SeqStopsK F n Tryz.prog 182 #[] Xo (Below n₀) (fun ys=>ys=allQ) (fun pre=>pre<+:allQ) 40 w:=fun l J Jx W _ _ _ hY h0=>
  Amp F n h6 hro hn l n₀ J Jx hY W h0
set_option maxHeartbeats 1000000 in
theorem Ag8 (F:Fence) (n:Nat) (h5:F.fn 169) (hro:F.round=none) (w:World):
    CallsIn F n Tryz.prog 169 #[] w fun e w'=>e= .returned (.func (.func 182) #[] #[])∧w'=w:=by
  refine callsIn_of_wp Tryz.func169 rfl h5 ?_ hro
  simp only [Tryz.ntmps169,List.size_toArray,List.length_nil,Nat.reduceSub,Array.replicate_succ,Array.replicate_zero,List.push_toArray,List.append_toArray,List.nil_append]
  gi_wp2
  go_ret
  exact ⟨rfl,rfl⟩
theorem Aby (v:Val) (hv: -1≤v.log∧v.log≤8∧0≤v.dots∧v.dots≤3) (w:World):
    Calls Tryz.prog 170 #[.agg #[.int .i64 v.log, .int .i64 v.dots]] w fun e w'=>e= .returned (.int .i64 (Ct v))∧Below w.heap.size w w':=by
  refine ((Wu v hv).calls (fun _ _=>none) w _ (fun b o u e=>by cases e) rfl fun i x d hx hd=> ?_).mono ?_
  · match i with
    |0=>
      cases hx;cases hd
      refine .agg _ _ rfl fun j y d hy hd=> ?_
      match j with
      |0=>cases hy;cases hd;exact .v _
      |1=>cases hy;cases hd;exact .v _
      |j+2=>cases hd
    |i+1=>cases hd
  · rintro e w' ⟨H',u,r,rfl,rfl,_,_,_,hb,hu⟩
    rw [R9 hu]
    exact ⟨rfl,hb⟩
def Jj (n:Int) (l:List Val):Option Val:=l.find? fun v=>decide (Ct v=n)
def Ej (n:Int):Val:=(Jj n U8).getD ⟨0,0⟩
def Km (n:Int):Int:=if Jj n U8=none then 17 else 0
theorem Ai3 {n:Int} {pre:List Val} {x:Val} (h:Jj n pre=none) (hx:Ct x=n):Jj n (pre++ [x])=some x:=by
  unfold Jj at*;rw [List.find?_append,h];simp [hx]
theorem Agn {n:Int} {pre:List Val} {x:Val} (h:Jj n pre=none) (hx:¬Ct x=n):Jj n (pre++ [x])=none:=by
  unfold Jj at*;rw [List.find?_append,h];simp [hx]
def fnd (n:Int) (l:List (Fin 40)):Option Val:=Jj n (l.map fun q=>Fq q.1)
theorem An9 {n:Int} {pre:List (Fin 40)} {x:Fin 40} (h:fnd n pre=none) (hx:Ct (Fq x.1)=n):fnd n (pre++ [x])=some (Fq x.1):=by
  unfold fnd at*;rw [List.map_append];exact Ai3 h hx
theorem Ak9 {n:Int} {pre:List (Fin 40)} {x:Fin 40} (h:fnd n pre=none) (hx:¬Ct (Fq x.1)=n):fnd n (pre++ [x])=none:=by
  unfold fnd at*;rw [List.map_append];exact Agn h hx
theorem An8 {n:Int} {pre:List (Fin 40)} {v:Val} (h:pre<+:allQ) (hf:fnd n pre=some v):Jj n U8=some v:=by
  obtain ⟨r,hr⟩:=h
  unfold fnd Jj at*
  rw [U8, ←hr,List.map_append,List.find?_append,hf];rfl
def Blk (W:World) (B:Nat) (cs:Array Value) (t:TypeId):Prop:=W.heap[B]? =some (.cells cs t (0,0))
theorem Blk.lt {W:World} {B:Nat} {cs:Array Value} {t:TypeId} (h:Blk W B cs t):B<W.heap.size:=(Array.getElem?_eq_some_iff.1 h).1
theorem Blk.cell {W:World} {B:Nat} {cs:Array Value} {t:TypeId} (h:Blk W B cs t) (o:Nat):W.cell? ⟨B,o,none⟩=cs[o]? :=by simp [World.cell?,show W.heap[B]? =_ from h]
theorem Blk.frozen {W:World} {B:Nat} {cs:Array Value} {t:TypeId} (h:Blk W B cs t) (o:Nat):W.frozen? ⟨B,o,none⟩=false:=by simp [World.frozen?,show W.heap[B]? =_ from h]
theorem Blk.new (W:World) (cs:Array Value) (t:TypeId):Blk (W.alloc (.cells cs t)) W.heap.size cs t:=World.alloc_heap_new W _
theorem Blk.below {N:Nat} {W W':World} {B:Nat} {cs:Array Value} {t:TypeId} (h:Blk W B cs t) (hb:Below N W W') (hN:B<N):Blk W' B cs t:=(hb.block B hN).trans h
theorem Blk.alloc {W:World} {B:Nat} {cs:Array Value} {t:TypeId} (h:Blk W B cs t) (o:Obj):Blk (W.alloc o) B cs t:=(Below.heap_alloc W o B h.lt).trans h
theorem Ml {β:Type} (B:Nat) (cs:Array Value) (t:TypeId):Own (fun (_:β) W=>Blk W B cs t):=fun _ X Y row hs hg hrow=>(grownBy_keeps_cells hg hrow hs rfl).trans hs
theorem Blk.set {W:World} {B:Nat} {cs:Array Value} {t:TypeId} (h:Blk W B cs t) (o:Nat) (v:Value):Blk (W.setCell ⟨B,o,none⟩ v) B (cs.setIfInBounds o v) t:=heap_setCell_same W B o cs t v h
theorem Blk.other {W:World} {B B':Nat} {cs:Array Value} {t:TypeId} (h:Blk W B cs t) (o:Nat) (v:Value) (hne:B≠B'):Blk (W.setCell ⟨B',o,none⟩ v) B cs t:=(Below.heap_setCell _ _ _ _ (fun e=>hne e)).trans h
theorem Blk.put {W:World} {B D:Nat} {cs:Array Value} {t:TypeId} (h:Blk W B cs t) (o:Obj) (hne:B≠D):Blk (W.putObj D o) B cs t:=(World.putObj_heap_other (fun e=>hne (by first|exact e|exact e.symm))).trans h
theorem Rx {N:Nat} {W W':World} (h:Below W.heap.size W W') (hN:N≤W.heap.size):KeepsFrom N W W':=KeepsOthers.from ⟨h.size,fun k o hk _=>(h.block k (Array.getElem?_eq_some_iff.1 hk).1).trans hk⟩ N
set_option maxRecDepth 100000 in
set_option maxHeartbeats 4000000 in
theorem Aob (n:Int) (w:World):Calls Tryz.prog 143 #[.int .i64 n] w fun e w'=>e= .returned (.tuple #[.agg #[.int .i64 (Ej n).log, .int .i64 (Ej n).dots], .int .i64 (Km n)])∧Below w.heap.size w w':=by
  refine (callsIn_wide (n:=5)).1 ?_
  refine callsIn_of_wp_marks Tryz.func143 rfl trivial ?_ rfl
  simp only [Tryz.ntmps143,List.size_toArray,List.length_cons,List.length_nil,Nat.reduceAdd,Nat.reduceSub,Array.replicate_succ,Array.replicate_zero,List.push_toArray,List.append_toArray,List.nil_append,List.cons_append]
  gi_wp2_with (refine ⟨trivial, ?_⟩;gi_at_call 169;refine (Ag8 Fence.wide _ trivial rfl _).mono ?_;rintro e w' ⟨rfl,rfl⟩)
  have b1:=((Blk.new w #[.int .i64 n] 3).alloc (.cells #[.int .i64 0, .int .i64 0] 56)).alloc (.cells #[.int .i64 0] 33)
  have b2:=(Blk.new (w.alloc (.cells #[.int .i64 n] 3)) #[.int .i64 0, .int .i64 0] 56).alloc (.cells #[.int .i64 0] 33)
  have b3:=Blk.new ((w.alloc (.cells #[.int .i64 n] 3)).alloc (.cells #[.int .i64 0, .int .i64 0] 56)) #[.int .i64 0] 33
  simp only [World.size_alloc] at b2 b3
  have hB0:Below w.heap.size w (((w.alloc (.cells #[.int .i64 n] 3)).alloc (.cells #[.int .i64 0, .int .i64 0] 56)).alloc (.cells #[.int .i64 0] 33)):=(((Below.refl _ w).alloc (Nat.le_refl _) _).alloc (by simp) _).alloc (by simp;omega) _
  have hsz:(((w.alloc (.cells #[.int .i64 n] 3)).alloc (.cells #[.int .i64 0, .int .i64 0] 56)).alloc (.cells #[.int .i64 0] 33)).heap.size=w.heap.size+3:=by simp
  obtain ⟨W0,hW0⟩:∃W0,((w.alloc (.cells #[.int .i64 n] 3)).alloc (.cells #[.int .i64 0, .int .i64 0] 56)).alloc (.cells #[.int .i64 0] 33)=W0:=⟨_,rfl⟩
  rw [hW0] at b1 b2 b3 hB0 hsz ⊢
  clear hW0
  refine wpIn_rangeFunc_ownH rfl (by omega) (gf:=182) (lb:= #[]) rfl trivial (enters_of Tryz.func182 (by kernel_rfl) rfl)
    (Afi Fence.wide _ trivial rfl (by omega) w.heap.size W0) belowK_t (belowK_b (by omega)) (Below.refl _ _) (fun _=>rfl)
    (fun pre W=>(((fnd n pre=none∧Blk W w.heap.size #[.int .i64 n] 3)∧Blk W (w.heap.size+1) #[.int .i64 0, .int .i64 0] 56)∧Blk W (w.heap.size+1+1) #[.int .i64 0] 33)∧Below w.heap.size w W)
    (fun c pre W=>((c= .ret∧∃v,fnd n pre=some v∧Blk W (w.heap.size+1) #[.int .i64 v.log, .int .i64 v.dots] 56)∧Blk W (w.heap.size+1+1) #[.int .i64 0] 33)∧Below w.heap.size w W)
    (OwnFrom.and (OwnFrom.and (OwnFrom.and (OwnFrom.and (ownFrom_pure _ _) (Own.from (Ml _ _ _) _)) (Own.from (Ml _ _ _) _)) (Own.from (Ml _ _ _) _)) (ownFrom_below (Nat.le_refl _) (by omega)))
    (fun c=>OwnFrom.and (OwnFrom.and (fun s X Y row hs hg hr=>by obtain ⟨h1,v,h2,h3⟩:=hs;exact ⟨h1,v,h2,Ml _ _ _ s X Y row h3 hg (fun r e=>(hr r e).2)⟩) (Own.from (Ml _ _ _) _)) (ownFrom_below (Nat.le_refl _) (by omega)))
    ⟨⟨⟨⟨rfl,b1⟩,b2⟩,b3⟩,hB0⟩
    (fun x a' W=>∃Bx,w.heap.size+1+1<Bx∧Blk W Bx #[.int .i64 (Fq x.1).log, .int .i64 (Fq x.1).dots] 56∧a'={tmps:= #[.int .i64 n, .pointer (some ⟨w.heap.size,0,none⟩), .pointer (some ⟨w.heap.size+1,0,none⟩), .pointer (some ⟨w.heap.size+1+1,0,none⟩), .pointer (some ⟨Bx,0,none⟩), .func (.func 182) #[] #[], .agg #[.int .i64 (Fq x.1).log, .int .i64 (Fq x.1).dots],undef,undef,undef,undef,undef,undef],defers:= []})
    (fun x a' _ X Y row hs hg hr=>by obtain ⟨Bx,h1,h2,h3⟩:=hs;exact ⟨Bx,h1,Ml Bx _ _ () X Y row h2 hg (fun r e=>(hr r e).2),h3⟩)
    ?assign ?body ?done ?stop
  case assign=>
    rintro l pre x W K ⟨⟨⟨⟨hf,b1⟩,b2⟩,b3⟩,hB⟩ hK
    simp only [Xo]
    gi_wp2
    exact hK _ _ ((KeepsOthers.alloc _ _).from _) ((Below.refl _ W).alloc hB.size _) ⟨⟨⟨⟨hf,b1.alloc _⟩,b2.alloc _⟩,b3.alloc _⟩,hB.alloc hB.size _⟩ ⟨W.heap.size,b3.lt,Blk.new W _ _,rfl⟩
  case body=>
    rintro l pre x a' W hl ⟨r,hr⟩ ⟨⟨⟨⟨hf,b1⟩,b2⟩,b3⟩,hB⟩ ⟨Bx,hBx,bX,rfl⟩ hlt
    have hmx:Tryz.prog.follows .mixedOrders=true:=by kernel_rfl
    have c1:=b1.cell 0
    have c2:=bX.cell 0
    have c3:=bX.cell 1
    have c4:=b2.cell 0
    have c5:=b2.cell 1
    have c6:=b3.cell 0
    have f1:=b2.frozen 0
    have f2:=b2.frozen 1
    have f3:=b3.frozen 0
    simp only [List.getElem?_toArray,List.getElem?_cons_zero,List.getElem?_cons_succ] at c1 c2 c3 c4 c5 c6
    gi_wp2
    gi_region_with_o (refine ⟨trivial, ?_⟩;gi_at_call 170;refine (CallsIn.inRound l (callsIn_wide.2 (Aby (Fq x.1) (Xp x.2) _))).mono ?_;rintro e w' ⟨rfl,hbw⟩;have k1:=(hbw.cell (p:=⟨w.heap.size,0,none⟩) (by simpa using b1.lt)).trans c1)
    all_goals have hB':Below W.heap.size W w':=(Below.drew (Below.refl _ W)).trans hbw
    all_goals have a1:=b1.below hB' b1.lt
    all_goals have a2:=b2.below hB' b2.lt
    all_goals have a3:=b3.below hB' b3.lt
    all_goals have aX:=bX.below hB' bX.lt
    all_goals have c2:=aX.cell 0
    all_goals have c3:=aX.cell 1
    all_goals have c4:=a2.cell 0
    all_goals have c5:=a2.cell 1
    all_goals have c6:=a3.cell 0
    all_goals have f1:=a2.frozen 0
    all_goals have f2:=a2.frozen 1
    all_goals have f3:=a3.frozen 0
    all_goals simp only [List.getElem?_toArray,List.getElem?_cons_zero,List.getElem?_cons_succ] at c2 c3 c4 c5 c6
    all_goals have hsW:=hB.size
    all_goals have hl3:=b3.lt
    all_goals by_cases hx:Ct (Fq x.1)=n
    all_goals first
      | (have hxb : (Ct (Fq ↑x) == n) = true := by simp [hx]
         rw [hxb]
         gi_wp2
         exact ⟨(Rx hB' (by omega)).trans (((KeepsOthers.setCell _ _ _).trans ((KeepsOthers.setCell _ _ _).trans (KeepsOthers.setCell _ _ _))).from _),
           ⟨⟨rfl,Fq x.1,An9 hf hx,((a2.set 0 _).set 1 _).other 0 _ (by omega)⟩,((a3.other 0 _ (by omega)).other 1 _ (by omega)).set 0 _⟩,
           (((hB.trans (hB'.mono (by omega))).setCell (p := ⟨w.heap.size + 1, 0, none⟩) (by simp) _).setCell (p := ⟨w.heap.size + 1, 1, none⟩) (by simp) _).setCell (p := ⟨w.heap.size + 1 + 1, 0, none⟩) (by simp; omega) _⟩)
      | (have hxb : (Ct (Fq ↑x) == n) = false := by simp [hx]
         rw [hxb]
         gi_wp2
         exact ⟨Rx hB' (by omega), hB'.mono (by omega), ⟨⟨⟨Ak9 hf hx, a1⟩, a2⟩, a3⟩, hB.trans (hB'.mono (by omega))⟩)
  case done=>
    rintro D ys W hD rfl ⟨⟨⟨⟨hf,b1⟩,b2⟩,b3⟩,hB⟩ hK
    have c4:=b2.cell 0
    have c5:=b2.cell 1
    have c6:=b3.cell 0
    have f1:=b2.frozen 0
    have f2:=b2.frozen 1
    have f3:=b3.frozen 0
    simp only [List.getElem?_toArray,List.getElem?_cons_zero,List.getElem?_cons_succ] at c4 c5 c6
    gi_wp2
    have g2:=((b2.set 0 (.int .i64 0)).set 1 (.int .i64 0)).other (B':=w.heap.size+1+1) 0 (.int .i64 17) (by omega)
    have g3:=((b3.other (B':=w.heap.size+1) 0 (.int .i64 0) (by omega)).other (B':=w.heap.size+1) 1 (.int .i64 0) (by omega)).set 0 (.int .i64 17)
    have hK':=((KeepsOthers.setCell W ⟨w.heap.size+1,0,none⟩ (.int .i64 0)).trans ((KeepsOthers.setCell _ ⟨w.heap.size+1,1,none⟩ (.int .i64 0)).trans (KeepsOthers.setCell _ ⟨w.heap.size+1+1,0,none⟩ (.int .i64 17)))).same D _ hK rfl
    have hB2:=((hB.setCell (p:=⟨w.heap.size+1,0,none⟩) (by simp) (.int .i64 0)).setCell (p:=⟨w.heap.size+1,1,none⟩) (by simp) (.int .i64 0)).setCell (p:=⟨w.heap.size+1+1,0,none⟩) (by simp;omega) (.int .i64 17)
    have hv0:Ej n=⟨0,0⟩∧Km n=17:=by
      have:Jj n U8=none:=hf
      exact ⟨by rw [Ej,this];rfl,by rw [Km,if_pos this]⟩
    rw [hv0.1,hv0.2]
    generalize (((W.setCell ⟨w.heap.size+1,0,none⟩ (.int .i64 0)).setCell ⟨w.heap.size+1,1,none⟩ (.int .i64 0)).setCell ⟨w.heap.size+1+1,0,none⟩ (.int .i64 17))=W2 at*
    refine ⟨by simp, .inl ⟨_,_,rfl,run_takeDeferred hK', ?_⟩⟩
    have d0:=(g2.put (.deferred none) (by omega:w.heap.size+1≠D)).cell 0
    have d1:=(g2.put (.deferred none) (by omega:w.heap.size+1≠D)).cell 1
    have d2:=(g3.put (.deferred none) (by omega:w.heap.size+1+1≠D)).cell 0
    refine ⟨_,by simp [results,Tryz.f143,go_sem,d0,d1,d2],rfl,hB2.trans (belowK_b (w:=w) (Nat.le_refl _) _ D _ _ (by omega) hK' rfl rfl)⟩
  case stop=>
    rintro D c pre W hD hp ⟨⟨⟨rfl,v,hv,b2⟩,b3⟩,hB⟩ hK
    gi_wp2
    have hv0:Ej n=v∧Km n=0:=by
      have:=An8 hp hv
      exact ⟨by rw [Ej,this];rfl,by rw [Km,this];rfl⟩
    rw [hv0.1,hv0.2]
    refine ⟨by simp, .inl ⟨_,_,rfl,run_takeDeferred hK, ?_⟩⟩
    have d0:=(b2.put (.deferred none) (by omega:w.heap.size+1≠D)).cell 0
    have d1:=(b2.put (.deferred none) (by omega:w.heap.size+1≠D)).cell 1
    have d2:=(b3.put (.deferred none) (by omega:w.heap.size+1+1≠D)).cell 0
    refine ⟨_,by simp [results,Tryz.f143,go_sem,d0,d1,d2],rfl,hB.trans (belowK_b (w:=w) (Nat.le_refl _) _ D _ _ (by omega) hK rfl rfl)⟩
theorem Amn (n:Int):XC Tryz.prog 143 [dI n] (fun r=>r= .tup [.agg (Val.c (Ej n)),dI (Km n)]):=by
  refine ⟨Aam,fun H w vs him hsz hvs=> ?_⟩
  have:vs= #[.int .i64 n]:=by
    have h1:vs.size=1:=hsz
    have h0:=hvs 0 vs[0] (dI n) (Array.getElem?_eq_getElem (by omega)) rfl
    apply Array.ext
    · simpa using h1
    · intro i h2 h3
      have:i=0:=by omega
      subst this
      exact R9 h0
  subst this
  refine (Aob n w).mono<|?_
  rintro e w' ⟨rfl,hb⟩
  refine ⟨H,_,_,R,R,Hp.le.refl _,fun b o u e=> .inl e,him.below hb,hb, .tup _ _ R fun i x d hx hd=> ?_⟩
  match i with
  |0=>
    cases hx;cases hd
    refine .agg _ _ R fun j y d hy hd=> ?_
    match j with
    |0=>cases hy;cases hd;exact .v _
    |1=>cases hy;cases hd;exact .v _
    |j+2=>cases hd
  |1=>cases hx;cases hd;exact .v _
  |i+2=>cases hd
end Go.Proofs.YtcihalbakenleaaGreat
namespace Go.Proofs.YtcihalbakenleaaGreat
open Go.RowKit
def Me.simp (m:Me) (a b:Int):Prop:=Km (b - a)=0∧(Ej (b - a)).dots≤2∧((m.strong a b).2.2=true→m.level a≤(m.strong a b).2.1∧(0<(Ej (b - a)).dots∨m.level b≤(m.strong a b).2.1))
instance (m:Me) (a b:Int):Decidable (m.simp a b):=by unfold Me.simp;exact inferInstance
def Ec (m:Me):Nat→Int→Int→List Val
 |0,_,_=> []
 |f+1,a,b=>if a=b then [] else if m.simp a b∨(m.strong a b).2.2=false then [Ej (b - a)] else Ec m f a (m.strong a b).1++Ec m f (m.strong a b).1 b
def SpP (f:Nat) (a b:Int):Prop:=0≤a∧a≤b∧b≤4398046511104∧b - a≤15482880∧Dz a b+1≤f
theorem Aea {m:Me} {a:Int}:∀k,(Fd m a k).2.2=true→∃j:Nat,j<k∧(Fd m a k).1=a+7560*(j+1)
 |0,h=>by cases h
 |k+1,h=>by
  by_cases c:(Fd m a k).2.2=false∨m.level (a+7560*(k+1))<(Fd m a k).2.1
  ·rw [Iz c];exact ⟨k,by omega,rfl⟩
  ·have e:Fd m a (k+1)=Fd m a k:=by rw [Fd,if_neg c]
   rw [e] at h ⊢
   obtain ⟨j,h1,h2⟩:=Aea k h
   exact ⟨j,by omega,h2⟩
theorem Vj {m:Me} {a b:Int} (h:(m.strong a b).2.2=true):∃j:Nat,j<Dz a b∧(m.strong a b).1=a+7560*(j+1):=Aea _ h
theorem Hz {m:Me} {f:Nat} {a b:Int} (h:SpP (f+1) a b) (hw:(m.strong a b).2.2=true):SpP f a (m.strong a b).1∧SpP f (m.strong a b).1 b∧Dz a (m.strong a b).1+Dz (m.strong a b).1 b+1≤Dz a b:=by
 obtain ⟨j,h1,h2⟩:=Vj hw
 obtain ⟨g1,g2,g3,g4,g5⟩:=h
 unfold SpP
 rw [h2]
 unfold Dz at*
 refine ⟨⟨by omega,by omega,by omega,by omega,by omega⟩,⟨by omega,by omega,by omega,by omega,by omega⟩,by omega⟩
theorem Du {m:Me}:∀(f:Nat) (a b:Int),SpP f a b→(Ec m f a b).length≤Dz a b+1
 |0,a,b,h=>by rw [Ec];simp
 |f+1,a,b,h=>by
  rw [Ec]
  split
  ·simp
  ·split
   ·simp
   ·rename_i hs
    have hw:(m.strong a b).2.2=true:=by
     cases e:(m.strong a b).2.2 with
     |true=>rfl
     |false=>exact absurd (.inr e) hs
    obtain ⟨h1,h2,h3⟩:=Hz h hw
    have:=Du (m:=m) f _ _ h1
    have:=Du (m:=m) f _ _ h2
    rw [List.length_append]
    omega
theorem C6 {m:Me} {f:Nat} {a b:Int} (h:a=b):Ec m (f+1) a b= []:=by rw [Ec,if_pos h]
theorem C5 {m:Me} {f:Nat} {a b:Int} (h:¬a=b) (h2:m.simp a b∨(m.strong a b).2.2=false):Ec m (f+1) a b= [Ej (b - a)]:=by rw [Ec,if_neg h,if_pos h2]
theorem C7 {m:Me} {f:Nat} {a b:Int} (h:¬a=b) (h2:¬m.simp a b) (hw:(m.strong a b).2.2=true):Ec m (f+1) a b=Ec m f a (m.strong a b).1++Ec m f (m.strong a b).1 b:=by
 rw [Ec,if_neg h,if_neg (fun k=>k.elim h2 fun k=>by rw [hw] at k;cases k)]
theorem En {e:TypeId} {sz:Nat} {l l':List (List D)} (h:l=l'):some (XO.row e sz l)=some (.row e sz l'):=by rw [h]
theorem Acc (m:Me) (h:Mok m) (f:Nat) (ih:∀a b,SpP f a b→XS Tryz.prog 102 [.agg (Me.c m),dI a,dI b] (.own 7001) [(7001, .row 56 2 ((Ec m f a b).map Val.c))]) (a b:Int) (hp:SpP (f+1) a b):XS Tryz.prog 102 [.agg (Me.c m), .v (.int .i64 a), .v (.int .i64 b)] (.own 7001) [(7001, .row 56 2 ((Ec m (f+1) a b).map Val.c))]:=by
 obtain ⟨ha,hab,hb,hd,hf⟩:=id hp
 refine Je Abk Tryz.func102 R R lb (by kernel_rfl) (by kernel_rfl)<|zr<|XL.step R (As 3 (l:= [.d (dI m.count), .d (dI m.unit), .d (dI m.g0), .d (dI m.g1), .d (dI m.g2), .d (dI m.g3), .d (dI m.g4), .d (dI m.g5)]) R R (by kernel_rfl))<|za R R<|zn<|zs<|zr<|zm R R<|zm R R<|zp (Az R R R)<|zn<|?_
 refine zd R (fun c15=> ?_) (fun c15=> ?_)
 refine zr<|za R R<|zn<|Fj 7001 6 56 2 R<|zt<|?_
 exact ⟨Em R (RVS.tmp R R),HSub.cons (by first|exact En (by rw [C6 c15];rfl)|exact En (by rw [C5 c15 (by first|exact .inr (D4 c63)|exact .inr (by assumption)|exact .inl ⟨by omega,by omega,fun _=>⟨by omega,by omega⟩⟩)];rfl)|exact G8 (C7 c15 (fun k=>by obtain ⟨k1,k2,k3⟩:=k;have k4:=k3 hw;first|omega|(rw [hw] at c38;cases c38)) hw)) (HSub.nil)⟩
 refine zi<|zr<|zp (Ae (s':= .d (.agg (Me.c m))) (Ac (Ad R R Ci R lb)) (by kernel_rfl))<|zm R R<|zm R R<|XL.call1 R R (Af4 _ _ _ (by assumption) (by omega) (by omega)) R<|zm R R<|zp (A6 R R R)<|zp (A6 R R R)<|zp (A6 R R R)<|za R R<|za R R<|za R R<|znr<|?_
 refine zm R R<|zm R R<|zp (Di R R R (by omega) (by omega))<|XL.call1 R R (Amn _) R<|zm R R<|zp (A6 R R R)<|zp (A6 R R R)<|XL.step R (A0 10 (l:= [.d (dI 0), .d (dI 0)]) R D8 (by kernel_rfl))<|XL.step R (Ag (l':= [.d (dI (Ej (b - a)).log), .d (dI (Ej (b - a)).dots)]) R R R R F3 R lb (by kernel_rfl))<|za R R<|znr<|zm R R<|zp (Az R R R)<|zm R R<|?_
 refine XL.dec 33 R (fun g33=> ?_) (fun g33=> ?_)
 refine zp (Ab R R J0)<|zp (Aa R R Ah R R)<|zp (Ha R R R)<|zq R R R<|za R R<|zn<|zs<|zr<|zm R R<|zn<|?_
 refine Dc (by kernel_rfl) R (fun c38=> ?_) (fun c38=> ?_)
 refine Af (by kernel_rfl)<|zm R R<|zm R R<|?_
 refine XL.dec 40 R (fun g40=> ?_) (fun g40=> ?_)
 refine zm R R<|zp (Ae (s':= .d (.agg (Me.c m))) (Ac (Ad R R Ci R lb)) (by kernel_rfl))<|zm R R<|XL.call1 R R (Qm _ _ (by assumption) (by omega)) R<|zp (E4 R R R)<|zq R R R<|zm R R<|?_
 refine XL.dec 47 R (fun g47=> ?_) (fun g47=> ?_)
 refine zp (Ab R R J0)<|zp (Aa R R Ah R R)<|zp (A5 R R R)<|zm R R<|?_
 refine XL.dec 51 R (fun g51=> ?_) (fun g51=> ?_)
 refine zk 5 R<|zq R R R<|zq R R R<|za R R<|zn<|zs<|zr<|zm R R<|zm R R<|zk 2 R<|zq R R R<|zn<|An (by kernel_rfl) R<|zr<|?_
 refine zp (Ae (s':= .d (.agg (Val.c (Ej (b - a))))) (Ac (Ad R R Da R lb)) (by kernel_rfl))<|XL.step R (B6 7001 R Tryz.underlying106 F3 D8 R R (by omega) (by omega))<|zp (A4 R (by conv=>lhs;whnf))<|?_
 refine zn<|zt<|?_
 exact ⟨Em R (RVS.tmp R R),HSub.cons (by first|exact En (by rw [C6 c15];rfl)|exact En (by rw [C5 c15 (by first|exact .inr (D4 c63)|exact .inr (by assumption)|exact .inl ⟨by omega,by omega,fun _=>⟨by omega,by omega⟩⟩)];rfl)|exact G8 (C7 c15 (fun k=>by obtain ⟨k1,k2,k3⟩:=k;have k4:=k3 hw;first|omega|(rw [hw] at c38;cases c38)) hw)) (HSub.nil)⟩
 refine zm R R<|zp (Ae (s':= .d (.agg (Me.c m))) (Ac (Ad R R Ci R lb)) (by kernel_rfl))<|zm R R<|XL.call1 R R (Qm _ _ (by assumption) (by omega)) R<|zp (E4 R R R)<|zq R R R<|zq R R R<|za R R<|zn<|zs<|zr<|zm R R<|zm R R<|?_
 refine XL.dec 60 R (fun g60=> ?_) (fun g60=> ?_)
 refine zk 2 R<|zq R R R<|zn<|An (by kernel_rfl) R<|zr<|zp (Ae (s':= .d (.agg (Val.c (Ej (b - a))))) (Ac (Ad R R Da R lb)) (by kernel_rfl))<|XL.step R (B6 7001 R Tryz.underlying106 F3 D8 R R (by omega) (by omega))<|zp (A4 R (by conv=>lhs;whnf))<|?_
 refine zn<|zt<|?_
 exact ⟨Em R (RVS.tmp R R),HSub.cons (by first|exact En (by rw [C6 c15];rfl)|exact En (by rw [C5 c15 (by first|exact .inr (D4 c63)|exact .inr (by assumption)|exact .inl ⟨by omega,by omega,fun _=>⟨by omega,by omega⟩⟩)];rfl)|exact G8 (C7 c15 (fun k=>by obtain ⟨k1,k2,k3⟩:=k;have k4:=k3 hw;first|omega|(rw [hw] at c38;cases c38)) hw)) (HSub.nil)⟩
 refine zm R R<|zp (Cu R R)<|zq R R R<|zn<|?_
 refine Dc (by kernel_rfl) R (fun c63=> ?_) (fun c63=> ?_)
 refine zr<|zp (Ae (s':= .d (.agg (Val.c (Ej (b - a))))) (Ac (Ad R R Da R lb)) (by kernel_rfl))<|XL.step R (B6 7001 R Tryz.underlying106 F3 D8 R R (by omega) (by omega))<|zp (A4 R (by conv=>lhs;whnf))<|?_
 refine zn<|zt<|?_
 exact ⟨Em R (RVS.tmp R R),HSub.cons (by first|exact En (by rw [C6 c15];rfl)|exact En (by rw [C5 c15 (by first|exact .inr (D4 c63)|exact .inr (by assumption)|exact .inl ⟨by omega,by omega,fun _=>⟨by omega,by omega⟩⟩)];rfl)|exact G8 (C7 c15 (fun k=>by obtain ⟨k1,k2,k3⟩:=k;have k4:=k3 hw;first|omega|(rw [hw] at c38;cases c38)) hw)) (HSub.nil)⟩
 have hw:=Hx c63
 obtain ⟨hp1,hp2,hp3⟩:=Hz hp hw
 have hl1:=Du (m:=m) f _ _ hp1
 have hl2:=Du (m:=m) f _ _ hp2
 have hN:Dz a b≤2048:=by unfold Dz;omega
 refine zi<|zs<|C3 7 [7001] (by kernel_rfl) (by kernel_rfl) (by kernel_rfl) (by kernel_rfl) (by decide)<|yp (Ae (s':= .d (.agg (Me.c m))) (Ac (Ad R R Ci R lb)) (by kernel_rfl))<|ym R R<|ym R R<|ChK.cons R (CStep.callS R ((ih _ _ hp1).lab 7001) R (Ft (by kernel_rfl)))<|yp (Ae (s':= .d (.agg (Me.c m))) (Ac (Ad R R Ci R lb)) (by kernel_rfl))<|?_
 refine ym R R<|ym R R<|?_
 refine ChK.nil ⟨by kernel_rfl, ?_⟩
 refine XL.callS R R ((ih _ _ hp2).lab 7002) R<|XL.step R (Bw R Mk (.own R) (Src.own R) (by simp only [List.length_map];unfold maxLen;omega) (by simp only [List.length_map];omega))<|zp (A4 R (by conv=>lhs;whnf))<|?_
 refine zn<|zt<|?_
 exact ⟨Em R (RVS.tmp R R),HSub.cons (by first|exact En (by rw [C6 c15];rfl)|exact En (by rw [C5 c15 (by first|exact .inr (D4 c63)|exact .inr (by assumption)|exact .inl ⟨by omega,by omega,fun _=>⟨by omega,by omega⟩⟩)];rfl)|exact G8 (C7 c15 (fun k=>by obtain ⟨k1,k2,k3⟩:=k;have k4:=k3 hw;first|omega|(rw [hw] at c38;cases c38)) hw)) (HSub.nil)⟩
 refine zk 10 R<|zq R R R<|za R R<|zn<|zs<|zr<|zm R R<|zm R R<|zm R R<|zp (Cu R R)<|zq R R R<|zn<|?_
 refine Dc (by kernel_rfl) R (fun c63=> ?_) (fun c63=> ?_)
 refine zr<|zp (Ae (s':= .d (.agg (Val.c (Ej (b - a))))) (Ac (Ad R R Da R lb)) (by kernel_rfl))<|XL.step R (B6 7001 R Tryz.underlying106 F3 D8 R R (by omega) (by omega))<|zp (A4 R (by conv=>lhs;whnf))<|?_
 refine zn<|zt<|?_
 exact ⟨Em R (RVS.tmp R R),HSub.cons (by first|exact En (by rw [C6 c15];rfl)|exact En (by rw [C5 c15 (by first|exact .inr (D4 c63)|exact .inr (by assumption)|exact .inl ⟨by omega,by omega,fun _=>⟨by omega,by omega⟩⟩)];rfl)|exact G8 (C7 c15 (fun k=>by obtain ⟨k1,k2,k3⟩:=k;have k4:=k3 hw;first|omega|(rw [hw] at c38;cases c38)) hw)) (HSub.nil)⟩
 have hw:=Hx c63
 obtain ⟨hp1,hp2,hp3⟩:=Hz hp hw
 have hl1:=Du (m:=m) f _ _ hp1
 have hl2:=Du (m:=m) f _ _ hp2
 have hN:Dz a b≤2048:=by unfold Dz;omega
 refine zi<|zs<|C3 7 [7001] (by kernel_rfl) (by kernel_rfl) (by kernel_rfl) (by kernel_rfl) (by decide)<|yp (Ae (s':= .d (.agg (Me.c m))) (Ac (Ad R R Ci R lb)) (by kernel_rfl))<|ym R R<|ym R R<|ChK.cons R (CStep.callS R ((ih _ _ hp1).lab 7001) R (Ft (by kernel_rfl)))<|yp (Ae (s':= .d (.agg (Me.c m))) (Ac (Ad R R Ci R lb)) (by kernel_rfl))<|?_
 refine ym R R<|ym R R<|?_
 refine ChK.nil ⟨by kernel_rfl, ?_⟩
 refine XL.callS R R ((ih _ _ hp2).lab 7003) R<|XL.step R (Bw R Mk (.own R) (Src.own R) (by simp only [List.length_map];unfold maxLen;omega) (by simp only [List.length_map];omega))<|zp (A4 R (by conv=>lhs;whnf))<|?_
 refine zn<|zt<|?_
 exact ⟨Em R (RVS.tmp R R),HSub.cons (by first|exact En (by rw [C6 c15];rfl)|exact En (by rw [C5 c15 (by first|exact .inr (D4 c63)|exact .inr (by assumption)|exact .inl ⟨by omega,by omega,fun _=>⟨by omega,by omega⟩⟩)];rfl)|exact G8 (C7 c15 (fun k=>by obtain ⟨k1,k2,k3⟩:=k;have k4:=k3 hw;first|omega|(rw [hw] at c38;cases c38)) hw)) (HSub.nil)⟩
 refine zk 5 R<|zq R R R<|zm R R<|zk 10 R<|zq R R R<|za R R<|zn<|zs<|zr<|zm R R<|zm R R<|zm R R<|zp (Cu R R)<|zq R R R<|?_
 refine zn<|?_
 refine Dc (by kernel_rfl) R (fun c63=> ?_) (fun c63=> ?_)
 refine zr<|zp (Ae (s':= .d (.agg (Val.c (Ej (b - a))))) (Ac (Ad R R Da R lb)) (by kernel_rfl))<|XL.step R (B6 7001 R Tryz.underlying106 F3 D8 R R (by omega) (by omega))<|zp (A4 R (by conv=>lhs;whnf))<|?_
 refine zn<|zt<|?_
 exact ⟨Em R (RVS.tmp R R),HSub.cons (by first|exact En (by rw [C6 c15];rfl)|exact En (by rw [C5 c15 (by first|exact .inr (D4 c63)|exact .inr (by assumption)|exact .inl ⟨by omega,by omega,fun _=>⟨by omega,by omega⟩⟩)];rfl)|exact G8 (C7 c15 (fun k=>by obtain ⟨k1,k2,k3⟩:=k;have k4:=k3 hw;first|omega|(rw [hw] at c38;cases c38)) hw)) (HSub.nil)⟩
 have hw:=Hx c63
 obtain ⟨hp1,hp2,hp3⟩:=Hz hp hw
 have hl1:=Du (m:=m) f _ _ hp1
 have hl2:=Du (m:=m) f _ _ hp2
 have hN:Dz a b≤2048:=by unfold Dz;omega
 refine zi<|zs<|C3 7 [7001] (by kernel_rfl) (by kernel_rfl) (by kernel_rfl) (by kernel_rfl) (by decide)<|yp (Ae (s':= .d (.agg (Me.c m))) (Ac (Ad R R Ci R lb)) (by kernel_rfl))<|ym R R<|ym R R<|ChK.cons R (CStep.callS R ((ih _ _ hp1).lab 7001) R (Ft (by kernel_rfl)))<|yp (Ae (s':= .d (.agg (Me.c m))) (Ac (Ad R R Ci R lb)) (by kernel_rfl))<|?_
 refine ym R R<|ym R R<|?_
 refine ChK.nil ⟨by kernel_rfl, ?_⟩
 refine XL.callS R R ((ih _ _ hp2).lab 7004) R<|XL.step R (Bw R Mk (.own R) (Src.own R) (by simp only [List.length_map];unfold maxLen;omega) (by simp only [List.length_map];omega))<|zp (A4 R (by conv=>lhs;whnf))<|?_
 refine zn<|zt<|?_
 exact ⟨Em R (RVS.tmp R R),HSub.cons (by first|exact En (by rw [C6 c15];rfl)|exact En (by rw [C5 c15 (by first|exact .inr (D4 c63)|exact .inr (by assumption)|exact .inl ⟨by omega,by omega,fun _=>⟨by omega,by omega⟩⟩)];rfl)|exact G8 (C7 c15 (fun k=>by obtain ⟨k1,k2,k3⟩:=k;have k4:=k3 hw;first|omega|(rw [hw] at c38;cases c38)) hw)) (HSub.nil)⟩
 refine zi<|zs<|zr<|zm R R<|zm R R<|?_
 refine XL.dec 60 R (fun g60=> ?_) (fun g60=> ?_)
 refine zk 2 R<|zq R R R<|zn<|An (by kernel_rfl) R<|zr<|zp (Ae (s':= .d (.agg (Val.c (Ej (b - a))))) (Ac (Ad R R Da R lb)) (by kernel_rfl))<|XL.step R (B6 7001 R Tryz.underlying106 F3 D8 R R (by omega) (by omega))<|zp (A4 R (by conv=>lhs;whnf))<|?_
 refine zn<|zt<|?_
 exact ⟨Em R (RVS.tmp R R),HSub.cons (by first|exact En (by rw [C6 c15];rfl)|exact En (by rw [C5 c15 (by first|exact .inr (D4 c63)|exact .inr (by assumption)|exact .inl ⟨by omega,by omega,fun _=>⟨by omega,by omega⟩⟩)];rfl)|exact G8 (C7 c15 (fun k=>by obtain ⟨k1,k2,k3⟩:=k;have k4:=k3 hw;first|omega|(rw [hw] at c38;cases c38)) hw)) (HSub.nil)⟩
 refine zm R R<|zp (Cu R R)<|zq R R R<|zn<|?_
 refine Dc (by kernel_rfl) R (fun c63=> ?_) (fun c63=> ?_)
 refine zr<|zp (Ae (s':= .d (.agg (Val.c (Ej (b - a))))) (Ac (Ad R R Da R lb)) (by kernel_rfl))<|XL.step R (B6 7001 R Tryz.underlying106 F3 D8 R R (by omega) (by omega))<|zp (A4 R (by conv=>lhs;whnf))<|?_
 refine zn<|zt<|?_
 exact ⟨Em R (RVS.tmp R R),HSub.cons (by first|exact En (by rw [C6 c15];rfl)|exact En (by rw [C5 c15 (by first|exact .inr (D4 c63)|exact .inr (by assumption)|exact .inl ⟨by omega,by omega,fun _=>⟨by omega,by omega⟩⟩)];rfl)|exact G8 (C7 c15 (fun k=>by obtain ⟨k1,k2,k3⟩:=k;have k4:=k3 hw;first|omega|(rw [hw] at c38;cases c38)) hw)) (HSub.nil)⟩
 have hw:=Hx c63
 obtain ⟨hp1,hp2,hp3⟩:=Hz hp hw
 have hl1:=Du (m:=m) f _ _ hp1
 have hl2:=Du (m:=m) f _ _ hp2
 have hN:Dz a b≤2048:=by unfold Dz;omega
 refine zi<|zs<|C3 7 [7001] (by kernel_rfl) (by kernel_rfl) (by kernel_rfl) (by kernel_rfl) (by decide)<|yp (Ae (s':= .d (.agg (Me.c m))) (Ac (Ad R R Ci R lb)) (by kernel_rfl))<|ym R R<|ym R R<|ChK.cons R (CStep.callS R ((ih _ _ hp1).lab 7001) R (Ft (by kernel_rfl)))<|yp (Ae (s':= .d (.agg (Me.c m))) (Ac (Ad R R Ci R lb)) (by kernel_rfl))<|?_
 refine ym R R<|ym R R<|?_
 refine ChK.nil ⟨by kernel_rfl, ?_⟩
 refine XL.callS R R ((ih _ _ hp2).lab 7005) R<|XL.step R (Bw R Mk (.own R) (Src.own R) (by simp only [List.length_map];unfold maxLen;omega) (by simp only [List.length_map];omega))<|zp (A4 R (by conv=>lhs;whnf))<|?_
 refine zn<|zt<|?_
 exact ⟨Em R (RVS.tmp R R),HSub.cons (by first|exact En (by rw [C6 c15];rfl)|exact En (by rw [C5 c15 (by first|exact .inr (D4 c63)|exact .inr (by assumption)|exact .inl ⟨by omega,by omega,fun _=>⟨by omega,by omega⟩⟩)];rfl)|exact G8 (C7 c15 (fun k=>by obtain ⟨k1,k2,k3⟩:=k;have k4:=k3 hw;first|omega|(rw [hw] at c38;cases c38)) hw)) (HSub.nil)⟩
 refine zk 3 R<|zq R R R<|za R R<|zn<|zs<|zr<|zm R R<|zn<|?_
 refine Dc (by kernel_rfl) R (fun c38=> ?_) (fun c38=> ?_)
 refine Af (by kernel_rfl)<|zm R R<|zm R R<|zk 5 R<|zq R R R<|zm R R<|zk 10 R<|zq R R R<|za R R<|zn<|zs<|zr<|zm R R<|zm R R<|?_
 refine zm R R<|zp (Cu R R)<|zq R R R<|zn<|?_
 refine Dc (by kernel_rfl) R (fun c63=> ?_) (fun c63=> ?_)
 refine zr<|zp (Ae (s':= .d (.agg (Val.c (Ej (b - a))))) (Ac (Ad R R Da R lb)) (by kernel_rfl))<|XL.step R (B6 7001 R Tryz.underlying106 F3 D8 R R (by omega) (by omega))<|zp (A4 R (by conv=>lhs;whnf))<|?_
 refine zn<|zt<|?_
 exact ⟨Em R (RVS.tmp R R),HSub.cons (by first|exact En (by rw [C6 c15];rfl)|exact En (by rw [C5 c15 (by first|exact .inr (D4 c63)|exact .inr (by assumption)|exact .inl ⟨by omega,by omega,fun _=>⟨by omega,by omega⟩⟩)];rfl)|exact G8 (C7 c15 (fun k=>by obtain ⟨k1,k2,k3⟩:=k;have k4:=k3 hw;first|omega|(rw [hw] at c38;cases c38)) hw)) (HSub.nil)⟩
 have hw:=Hx c63
 obtain ⟨hp1,hp2,hp3⟩:=Hz hp hw
 have hl1:=Du (m:=m) f _ _ hp1
 have hl2:=Du (m:=m) f _ _ hp2
 have hN:Dz a b≤2048:=by unfold Dz;omega
 refine zi<|zs<|C3 7 [7001] (by kernel_rfl) (by kernel_rfl) (by kernel_rfl) (by kernel_rfl) (by decide)<|yp (Ae (s':= .d (.agg (Me.c m))) (Ac (Ad R R Ci R lb)) (by kernel_rfl))<|ym R R<|ym R R<|ChK.cons R (CStep.callS R ((ih _ _ hp1).lab 7001) R (Ft (by kernel_rfl)))<|yp (Ae (s':= .d (.agg (Me.c m))) (Ac (Ad R R Ci R lb)) (by kernel_rfl))<|?_
 refine ym R R<|ym R R<|?_
 refine ChK.nil ⟨by kernel_rfl, ?_⟩
 refine XL.callS R R ((ih _ _ hp2).lab 7006) R<|XL.step R (Bw R Mk (.own R) (Src.own R) (by simp only [List.length_map];unfold maxLen;omega) (by simp only [List.length_map];omega))<|zp (A4 R (by conv=>lhs;whnf))<|?_
 refine zn<|zt<|?_
 exact ⟨Em R (RVS.tmp R R),HSub.cons (by first|exact En (by rw [C6 c15];rfl)|exact En (by rw [C5 c15 (by first|exact .inr (D4 c63)|exact .inr (by assumption)|exact .inl ⟨by omega,by omega,fun _=>⟨by omega,by omega⟩⟩)];rfl)|exact G8 (C7 c15 (fun k=>by obtain ⟨k1,k2,k3⟩:=k;have k4:=k3 hw;first|omega|(rw [hw] at c38;cases c38)) hw)) (HSub.nil)⟩
 refine zi<|zs<|zr<|zm R R<|zm R R<|zm R R<|zp (Cu R R)<|zq R R R<|zn<|?_
 refine Dc (by kernel_rfl) R (fun c63=> ?_) (fun c63=> ?_)
 refine zr<|zp (Ae (s':= .d (.agg (Val.c (Ej (b - a))))) (Ac (Ad R R Da R lb)) (by kernel_rfl))<|XL.step R (B6 7001 R Tryz.underlying106 F3 D8 R R (by omega) (by omega))<|zp (A4 R (by conv=>lhs;whnf))<|?_
 refine zn<|zt<|?_
 exact ⟨Em R (RVS.tmp R R),HSub.cons (by first|exact En (by rw [C6 c15];rfl)|exact En (by rw [C5 c15 (by first|exact .inr (D4 c63)|exact .inr (by assumption)|exact .inl ⟨by omega,by omega,fun _=>⟨by omega,by omega⟩⟩)];rfl)|exact G8 (C7 c15 (fun k=>by obtain ⟨k1,k2,k3⟩:=k;have k4:=k3 hw;first|omega|(rw [hw] at c38;cases c38)) hw)) (HSub.nil)⟩
 have hw:=Hx c63
 obtain ⟨hp1,hp2,hp3⟩:=Hz hp hw
 have hl1:=Du (m:=m) f _ _ hp1
 have hl2:=Du (m:=m) f _ _ hp2
 have hN:Dz a b≤2048:=by unfold Dz;omega
 refine zi<|zs<|C3 7 [7001] (by kernel_rfl) (by kernel_rfl) (by kernel_rfl) (by kernel_rfl) (by decide)<|yp (Ae (s':= .d (.agg (Me.c m))) (Ac (Ad R R Ci R lb)) (by kernel_rfl))<|ym R R<|ym R R<|ChK.cons R (CStep.callS R ((ih _ _ hp1).lab 7001) R (Ft (by kernel_rfl)))<|yp (Ae (s':= .d (.agg (Me.c m))) (Ac (Ad R R Ci R lb)) (by kernel_rfl))<|?_
 refine ym R R<|ym R R<|?_
 refine ChK.nil ⟨by kernel_rfl, ?_⟩
 refine XL.callS R R ((ih _ _ hp2).lab 7007) R<|XL.step R (Bw R Mk (.own R) (Src.own R) (by simp only [List.length_map];unfold maxLen;omega) (by simp only [List.length_map];omega))<|zp (A4 R (by conv=>lhs;whnf))<|?_
 refine zn<|zt<|?_
 exact ⟨Em R (RVS.tmp R R),HSub.cons (by first|exact En (by rw [C6 c15];rfl)|exact En (by rw [C5 c15 (by first|exact .inr (D4 c63)|exact .inr (by assumption)|exact .inl ⟨by omega,by omega,fun _=>⟨by omega,by omega⟩⟩)];rfl)|exact G8 (C7 c15 (fun k=>by obtain ⟨k1,k2,k3⟩:=k;have k4:=k3 hw;first|omega|(rw [hw] at c38;cases c38)) hw)) (HSub.nil)⟩
theorem V7 (m:Me) (h:Mok m):∀(f:Nat) (a b:Int),SpP f a b→XS Tryz.prog 102 [.agg (Me.c m),dI a,dI b] (.own 7001) [(7001, .row 56 2 ((Ec m f a b).map Val.c))]
 |0,a,b,hp=>by have:=hp.2.2.2.2;omega
 |f+1,a,b,hp=>Acc m h f (V7 m h f) a b hp
def Me.splitE (m:Me) (a b:Int):Int:=if m.err≠0 then m.err else if a<0∨b<a∨4398046511104<b then 2 else if a % 7560≠0∨b % 7560≠0 then 16 else if 15482880<b - a then 5 else 0
def Me.split (m:Me) (a b:Int):List Val:=if m.splitE a b=0 then Ec m (Dz a b+1) a b else []
theorem P9 {m:Me} {a b:Int} (h:m.err≠0):m.splitE a b=m.err∧m.split a b= []:=by
 have:m.splitE a b=m.err:=by rw [Me.splitE,if_pos h]
 exact ⟨this,by rw [Me.split,if_neg (by rw [this];exact h)]⟩
theorem P8 {m:Me} {a b:Int} (h:¬m.err≠0) (h2:a<0∨b<a∨4398046511104<b):m.splitE a b=2∧m.split a b= []:=by
 have:m.splitE a b=2:=by rw [Me.splitE,if_neg h,if_pos h2]
 exact ⟨this,by rw [Me.split,if_neg (by rw [this];decide)]⟩
theorem P7 {m:Me} {a b:Int} (h:¬m.err≠0) (h2:¬(a<0∨b<a∨4398046511104<b)) (h3:a % 7560≠0∨b % 7560≠0):m.splitE a b=16∧m.split a b= []:=by
 have:m.splitE a b=16:=by rw [Me.splitE,if_neg h,if_neg h2,if_pos h3]
 exact ⟨this,by rw [Me.split,if_neg (by rw [this];decide)]⟩
theorem P6 {m:Me} {a b:Int} (h:¬m.err≠0) (h2:¬(a<0∨b<a∨4398046511104<b)) (h3:¬(a % 7560≠0∨b % 7560≠0)) (h4:15482880<b - a):m.splitE a b=5∧m.split a b= []:=by
 have:m.splitE a b=5:=by rw [Me.splitE,if_neg h,if_neg h2,if_neg h3,if_pos h4]
 exact ⟨this,by rw [Me.split,if_neg (by rw [this];decide)]⟩
theorem P5 {m:Me} {a b:Int} (h:¬m.err≠0) (h2:¬(a<0∨b<a∨4398046511104<b)) (h3:¬(a % 7560≠0∨b % 7560≠0)) (h4:¬15482880<b - a):m.splitE a b=0∧m.split a b=Ec m (Dz a b+1) a b:=by
 have:m.splitE a b=0:=by rw [Me.splitE,if_neg h,if_neg h2,if_neg h3,if_neg h4]
 exact ⟨this,by rw [Me.split,if_pos this]⟩
theorem Dn {m:Me} {a b:Int} {l:List Val} {e:Int} (h:m.splitE a b=e∧m.split a b=l):D.tup [.sl 2 (l.map Val.c),dI e]= .tup [.sl 2 ((m.split a b).map Val.c),dI (m.splitE a b)]:=by rw [h.1,h.2]
theorem Qo (m:Me) (a b:Int):XC Tryz.prog 62 [.agg (Me.c m), .v (.int .i64 a), .v (.int .i64 b)] (fun r=>r= .tup [.sl 2 ((m.split a b).map Val.c),dI (m.splitE a b)]):=by
 refine Ao Ac8 Tryz.func62 R R lb<|zr<|XL.step R (As 3 (l:= [.d (dI m.count), .d (dI m.unit), .d (dI m.g0), .d (dI m.g1), .d (dI m.g2), .d (dI m.g3), .d (dI m.g4), .d (dI m.g5)]) R R (by kernel_rfl))<|za R R<|za R R<|zn<|zs<|zr<|zp (Ae (s':= .d (.agg (Me.c m))) (Ac (Ad R R Ci R lb)) (by kernel_rfl))<|XL.call1 R R (V9 _) R<|za R R<|znr<|zm R R<|?_
 refine zp (A9 R R R)<|zn<|?_
 refine zd R (fun c12=> ?_) (fun c12=> ?_)
 refine zr<|zm R R<|za R R<|za R R<|zn<|zt<|?_
 exact Bl R (RV.nil (sz:=2) R R) (RV.tmp R R) (by first|exact Dn (P9 c12)|exact Dn (P8 c12 (by omega))|exact Dn (P7 c12 (by omega) (by omega))|exact Dn (P6 c12 (by omega) (by omega) (by omega))|exact Dn (P5 c12 (by omega) (by omega) (by omega)))
 refine zi<|zs<|Ai<|zr<|zm R R<|zp (Aq R R R)<|zm R R<|?_
 refine XL.dec 17 R (fun g17=> ?_) (fun g17=> ?_)
 refine zk 3 R<|zq R R R<|zm R R<|zk 2 R<|zq R R R<|za R R<|zn<|An (by kernel_rfl) R<|zr<|za R R<|za R R<|zn<|zt<|?_
 exact Bl R (RV.nil (sz:=2) R R) (RV.tmp R R) (by first|exact Dn (P9 c12)|exact Dn (P8 c12 (by omega))|exact Dn (P7 c12 (by omega) (by omega))|exact Dn (P6 c12 (by omega) (by omega) (by omega))|exact Dn (P5 c12 (by omega) (by omega) (by omega)))
 refine zm R R<|zm R R<|zp (Aq R R R)<|zq R R R<|zm R R<|?_
 refine XL.dec 22 R (fun g22=> ?_) (fun g22=> ?_)
 refine zk 2 R<|zq R R R<|za R R<|zn<|An (by kernel_rfl) R<|zr<|za R R<|za R R<|zn<|zt<|?_
 exact Bl R (RV.nil (sz:=2) R R) (RV.tmp R R) (by first|exact Dn (P9 c12)|exact Dn (P8 c12 (by omega))|exact Dn (P7 c12 (by omega) (by omega))|exact Dn (P6 c12 (by omega) (by omega) (by omega))|exact Dn (P5 c12 (by omega) (by omega) (by omega)))
 refine zm R R<|zp (A5 R R R)<|zq R R R<|za R R<|zn<|?_
 refine zd R (fun c14=> ?_) (fun c14=> ?_)
 refine zr<|za R R<|za R R<|zn<|zt<|?_
 exact Bl R (RV.nil (sz:=2) R R) (RV.tmp R R) (by first|exact Dn (P9 c12)|exact Dn (P8 c12 (by omega))|exact Dn (P7 c12 (by omega) (by omega))|exact Dn (P6 c12 (by omega) (by omega) (by omega))|exact Dn (P5 c12 (by omega) (by omega) (by omega)))
 refine zs<|?_
 have hab:¬(a<0∨b<a∨4398046511104<b):=by omega
 refine Af (by kernel_rfl)<|zm R R<|zp (F5 R R R (by omega) (by omega))<|zp (A9 R R R)<|zm R R<|?_
 refine XL.dec 30 R (fun g30=> ?_) (fun g30=> ?_)
 refine zk 3 R<|zq R R R<|za R R<|zn<|An (by kernel_rfl) R<|zr<|za R R<|za R R<|zn<|zt<|?_
 exact Bl R (RV.nil (sz:=2) R R) (RV.tmp R R) (by first|exact Dn (P9 c12)|exact Dn (P8 c12 (by omega))|exact Dn (P7 c12 (by omega) (by omega))|exact Dn (P6 c12 (by omega) (by omega) (by omega))|exact Dn (P5 c12 (by omega) (by omega) (by omega)))
 refine zm R R<|zp (F5 R R R (by omega) (by omega))<|zp (A9 R R R)<|zq R R R<|za R R<|zn<|?_
 refine zd R (fun c26=> ?_) (fun c26=> ?_)
 refine zr<|za R R<|za R R<|zn<|zt<|?_
 exact Bl R (RV.nil (sz:=2) R R) (RV.tmp R R) (by first|exact Dn (P9 c12)|exact Dn (P8 c12 (by omega))|exact Dn (P7 c12 (by omega) (by omega))|exact Dn (P6 c12 (by omega) (by omega) (by omega))|exact Dn (P5 c12 (by omega) (by omega) (by omega)))
 refine zr<|zm R R<|zm R R<|zp (Di R R R (by omega) (by omega))<|zp (A5 R R R)<|za R R<|zn<|?_
 refine zd R (fun c35=> ?_) (fun c35=> ?_)
 refine zr<|za R R<|za R R<|zn<|zt<|?_
 exact Bl R (RV.nil (sz:=2) R R) (RV.tmp R R) (by first|exact Dn (P9 c12)|exact Dn (P8 c12 (by omega))|exact Dn (P7 c12 (by omega) (by omega))|exact Dn (P6 c12 (by omega) (by omega) (by omega))|exact Dn (P5 c12 (by omega) (by omega) (by omega)))
 refine zi<|zs<|?_
 have hok:=Apt c12
 have hsp:SpP (Dz a b+1) a b:=⟨by omega,by omega,by omega,by omega,Nat.le_refl _⟩
 refine Af (by kernel_rfl)<|zp (Ae (s':= .d (.agg (Me.c m))) (Ac (Ad R R Ci R lb)) (by kernel_rfl))<|zm R R<|zm R R<|XL.callS R R ((V7 _ (by assumption) _ _ _ hsp).lab 7001) R<|zp (A4 R (by conv=>lhs;whnf))<|?_
 refine za R R<|zn<|zt<|Cp (i:=7001) R<|?_
 exact Bl R (RV.tmp R R) (RV.tmp R R) (by first|exact Dn (P9 c12)|exact Dn (P8 c12 (by omega))|exact Dn (P7 c12 (by omega) (by omega))|exact Dn (P6 c12 (by omega) (by omega) (by omega))|exact Dn (P5 c12 (by omega) (by omega) (by omega)))
end Go.Proofs.YtcihalbakenleaaGreat
