/- number: the digits at an offset of a text; the reference's too. -/
import Derived.Test.YtfappkhohddcjaaDoorBase
namespace Go.Proofs.YtfappkhohddcjaaDoor
open Go.RowKit

def isD (c : UInt8) : Bool := decide (48 ≤ c.toNat ∧ c.toNat ≤ 57)
def runD : List UInt8 → Nat
  | [] => 0
  | c :: l => if isD c then runD l + 1 else 0
def decV (l : List UInt8) : Nat := l.foldl (fun n c => 10 * n + (c.toNat - 48)) 0
structure NumR where
  v : Nat
  at_ : Nat
  e : Int
def numF (l : List UInt8) (fr : Nat) : NumR :=
  if runD (l.drop fr) = 0 then (if fr = l.length then ⟨0, fr, 4⟩ else ⟨0, fr, 6⟩) else if 10 < runD (l.drop fr) then ⟨0, fr, 5⟩ else ⟨decV ((l.drop fr).take (runD (l.drop fr))), fr + runD (l.drop fr), 0⟩

/-- the offset of the error, as the reference names it -/
def numB (F : NumR) : Int := if F.e = 0 then 0 else (F.at_ : Int)
theorem isD_iff {c : UInt8} : isD c = true ↔ 48 ≤ c.toNat ∧ c.toNat ≤ 57 := by simp [isD]
theorem runD_le : ∀ l, runD l ≤ l.length
  | [] => Nat.le_refl _
  | c :: l => by
    have := runD_le l
    rw [runD, List.length_cons]
    split <;> omega
theorem runD_dig : ∀ {l : List UInt8} {j : Nat}, j < runD l → ∃ c, l[j]? = some c ∧ isD c = true
  | [], j, h => by simp [runD] at h
  | c :: l, j, h => by
    rw [runD] at h
    split at h
    · rename_i hc
      match j with
      | 0 => exact ⟨c, rfl, hc⟩
      | j + 1 => simpa using runD_dig (l := l) (j := j) (by omega)
    · omega
theorem runD_stop : ∀ {l : List UInt8} {c : UInt8}, l[runD l]? = some c → isD c = false
  | [], c, h => by simp [runD] at h
  | d :: l, c, h => by
    rw [runD] at h
    split at h
    · rw [List.getElem?_cons_succ] at h
      exact runD_stop h
    · rename_i hd
      simp only [List.getElem?_cons_zero, Option.some.injEq] at h
      subst h
      simpa using hd
theorem runD_lt {l : List UInt8} {j : Nat} {c : UInt8} (h : j ≤ runD l) (hc : l[j]? = some c) (hd : isD c = true) : j < runD l := by
  rcases Nat.lt_or_ge j (runD l) with h' | h'
  · exact h'
  · have e : j = runD l := Nat.le_antisymm h h'
    subst e
    rw [runD_stop hc] at hd
    cases hd
theorem runD_eq {l : List UInt8} {j : Nat} (h : j ≤ runD l) (hc : ∀ c, l[j]? = some c → isD c = false) : runD l = j := by
  rcases Nat.lt_or_ge j (runD l) with h' | h'
  · obtain ⟨c, h1, h2⟩ := runD_dig h'
    rw [hc c h1] at h2
    cases h2
  · exact Nat.le_antisymm h' h
theorem decV_snoc (l : List UInt8) (c : UInt8) : decV (l ++ [c]) = 10 * decV l + (c.toNat - 48) := by simp [decV, List.foldl_append]
theorem decV_lt : ∀ (l : List UInt8), (∀ c ∈ l, isD c = true) → decV l < 10 ^ l.length := by
  intro l h
  have key : ∀ (l : List UInt8) (n : Nat), (∀ c ∈ l, isD c = true) → l.foldl (fun n c => 10 * n + (c.toNat - 48)) n < (n + 1) * 10 ^ l.length := by
    intro l
    induction l with
    | nil => intro n _; simp
    | cons c l ih =>
      intro n h
      have h1 := ih (10 * n + (c.toNat - 48)) (fun d hd => h d (List.mem_cons_of_mem _ hd))
      have h2 := isD_iff.1 (h c List.mem_cons_self)
      rw [List.foldl_cons, List.length_cons, Nat.pow_succ]
      refine Nat.lt_of_lt_of_le h1 ?_
      have : (10 * n + (c.toNat - 48) + 1) * 10 ^ l.length ≤ ((n + 1) * 10) * 10 ^ l.length := Nat.mul_le_mul_right _ (by omega)
      calc _ ≤ ((n + 1) * 10) * 10 ^ l.length := this
        _ = _ := by rw [Nat.mul_assoc, Nat.mul_comm 10]
  have := key l 0 h
  rw [Nat.zero_add, Nat.one_mul] at this
  exact this

/-- where the loop stands -/
structure NumI (l : List UInt8) (fr k x : Nat) : Prop where
  le : k - fr ≤ runD (l.drop fr)
  val : x = decV ((l.drop fr).take (min (k - fr) 10))
theorem NumI.start (l : List UInt8) (fr : Nat) : NumI l fr fr 0 := ⟨by omega, by simp [decV]⟩
theorem NumI.bound {l : List UInt8} {fr k x : Nat} (h : NumI l fr k x) : x ≤ 9999999999 := by
  have h1 : ∀ c ∈ (l.drop fr).take (min (k - fr) 10), isD c = true := fun c hc => by
    obtain ⟨j, hj, e⟩ := List.mem_iff_getElem.1 hc
    have hj' : j < min (k - fr) 10 := by have := hj; simp only [List.length_take] at this; omega
    obtain ⟨d, h2, h3⟩ := runD_dig (l := l.drop fr) (j := j) (by have := h.le; omega)
    rw [← e, List.getElem_take]
    rw [List.getElem?_eq_some_iff] at h2
    obtain ⟨h4, h5⟩ := h2
    rw [h5]; exact h3
  have h2 := decV_lt _ h1
  rw [← h.val] at h2
  have h3 : ((l.drop fr).take (min (k - fr) 10)).length ≤ 10 := by simp only [List.length_take]; omega
  have h4 : 10 ^ ((l.drop fr).take (min (k - fr) 10)).length ≤ 10 ^ 10 := Nat.pow_le_pow_right (by omega) h3
  have h5 : (10 : Nat) ^ 10 = 10000000000 := by decide
  omega
theorem NumI.step {l : List UInt8} {fr k x : Nat} {c : UInt8} (h : NumI l fr k x) (hk : fr ≤ k) (hc : l[k]? = some c) (hd : isD c = true) (h10 : k - fr < 10) : NumI l fr (k + 1) (10 * x + (c.toNat - 48)) := by
  have hc' : (l.drop fr)[k - fr]? = some c := by rw [List.getElem?_drop, show fr + (k - fr) = k by omega]; exact hc
  have h1 := runD_lt h.le hc' hd
  refine ⟨by omega, ?_⟩
  rw [show min (k + 1 - fr) 10 = k - fr + 1 by omega, List.take_add_one, hc', Option.toList_some, decV_snoc, h.val, show min (k - fr) 10 = k - fr by omega]
theorem NumI.step2 {l : List UInt8} {fr k x : Nat} {c : UInt8} (h : NumI l fr k x) (hk : fr ≤ k) (hc : l[k]? = some c) (hd : isD c = true) (h10 : ¬ k - fr < 10) : NumI l fr (k + 1) x := by
  have hc' : (l.drop fr)[k - fr]? = some c := by rw [List.getElem?_drop, show fr + (k - fr) = k by omega]; exact hc
  have h1 := runD_lt h.le hc' hd
  exact ⟨by omega, by rw [h.val, show min (k + 1 - fr) 10 = min (k - fr) 10 by omega]⟩
theorem NumI.fin {l : List UInt8} {fr k x : Nat} (h : NumI l fr k x) (hk : fr ≤ k) (hc : ∀ c, l[k]? = some c → isD c = false) : runD (l.drop fr) = k - fr :=
  runD_eq h.le fun c h' => hc c (by rw [List.getElem?_drop, show fr + (k - fr) = k by omega] at h'; exact h')
theorem NumI.short {l : List UInt8} {fr k x : Nat} (h : NumI l fr k x) (hk : fr ≤ k) (hc : ∀ c, l[k]? = some c → isD c = false) (e1 : k = fr) (e2 : k = l.length) : numF l fr = ⟨0, k, 4⟩ := by
  have := h.fin hk hc
  rw [numF, this, if_pos (by omega), if_pos (by omega), e1]
theorem NumI.byte {l : List UInt8} {fr k x : Nat} (h : NumI l fr k x) (hk : fr ≤ k) (hc : ∀ c, l[k]? = some c → isD c = false) (e1 : k = fr) (e2 : ¬ k = l.length) : numF l fr = ⟨0, k, 6⟩ := by
  have := h.fin hk hc
  rw [numF, this, if_pos (by omega), if_neg (by omega), e1]
theorem NumI.long {l : List UInt8} {fr k x : Nat} (h : NumI l fr k x) (hk : fr ≤ k) (hc : ∀ c, l[k]? = some c → isD c = false) (e1 : 10 < k - fr) : numF l fr = ⟨0, fr, 5⟩ := by
  have := h.fin hk hc
  rw [numF, this, if_neg (by omega), if_pos e1]
theorem NumI.good {l : List UInt8} {fr k x : Nat} (h : NumI l fr k x) (hk : fr ≤ k) (hc : ∀ c, l[k]? = some c → isD c = false) (e1 : ¬ k = fr) (e2 : ¬ 10 < k - fr) : numF l fr = ⟨x, k, 0⟩ := by
  have := h.fin hk hc
  rw [numF, this, if_neg (by omega), if_neg e2, h.val, show min (k - fr) 10 = k - fr by omega, show fr + (k - fr) = k by omega]
theorem results_tmp4 {fn : Func} {t u v x : Tmp} (h : fn.results = #[.tmp t, .tmp u, .tmp v, .tmp x]) (tmps : Array Value) (P : Program) (w : World) :
    (results fn tmps).run P w = .ok (.tuple #[tmps.getD t undef, tmps.getD u undef, tmps.getD v undef, tmps.getD x undef]) w := by
  simp [results, h]
macro "go_ret4" : tactic => `(tactic| ((try simp only [Exit.inBlock, Exit.then]); refine bodyPost_ret (results_tmp4 rfl _ _ _) rfl ?_))
theorem str_get (s : ByteArray) (k : Nat) (h : k < s.size) : s.data.toList[k]? = some s[k] := by
  rw [List.getElem?_eq_some_iff]
  exact ⟨by simpa using h, rfl⟩

set_option maxRecDepth 100000 in
set_option maxHeartbeats 4000000 in
theorem number_any (s : ByteArray) (fr : Nat) (w : World) (hs : s.size ≤ 1000000000) (hf : fr ≤ s.size) :
    Calls Tryd.prog 50 #[.string s, .int .i64 fr] w fun e w' => e = .returned (.tuple #[.int .i64 (((numF s.data.toList fr).v : Int)), .int .i64 (((numF s.data.toList fr).at_ : Int)), .int .i64 ((numF s.data.toList fr).e)]) ∧ w = w' := by
  have hlen : s.data.toList.length = s.size := Array.length_toList
  obtain ⟨F, hF⟩ : ∃ F, F = numF s.data.toList fr := ⟨_, rfl⟩
  rw [← hF]
  have HF := hide hF
  clear hF
  go_enter Tryd.func50, Tryd.ntmps50
  go_wp2_with fail
  go_loopg [4, 5] (s.size) (fun gl s0 s1 wr => wr = w ∧ ∃ k x : Nat, s1 = .int .i64 k ∧ s0 = .int .i64 x ∧ s.size - k ≤ gl ∧ fr ≤ k ∧ k ≤ s.size ∧ x ≤ 9999999999 ∧ Hid (NumI s.data.toList fr k x))
  case atStart => exact ⟨rfl, fr, 0, rfl, rfl, by omega, Nat.le_refl _, hf, by omega, hide (NumI.start _ _)⟩
  case round =>
    obtain ⟨rfl, k, x, rfl, rfl, hgl, hfk, hks, hx, HI⟩ := hrel
    have j1 : IntKind.i64.wrap ((k : Int) - (fr : Int)) = (k : Int) - (fr : Int) := IntWalk.i64_in _ (by omega)
    have j2 : IntKind.i64.wrap ((k : Int) + 1) = (k : Int) + 1 := IntWalk.i64_in _ (by omega)
    have j3 : IntKind.i64.wrap (10 * (x : Int)) = 10 * (x : Int) := IntWalk.i64_in _ (by omega)
    have fin : (∀ c, s.data.toList[k]? = some c → isD c = false) → (k = fr ∧ k = s.size ∧ F = ⟨0, k, 4⟩) ∨ (k = fr ∧ ¬ k = s.size ∧ F = ⟨0, k, 6⟩) ∨ (¬ k = fr ∧ 10 < k - fr ∧ F = ⟨0, fr, 5⟩) ∨ (¬ k = fr ∧ ¬ 10 < k - fr ∧ F = ⟨x, k, 0⟩) := fun hc => by
      rcases (show (k = fr ∧ k = s.size) ∨ (k = fr ∧ ¬ k = s.size) ∨ (¬ k = fr ∧ 10 < k - fr) ∨ (¬ k = fr ∧ ¬ 10 < k - fr) by omega) with ⟨a, b⟩ | ⟨a, b⟩ | ⟨a, b⟩ | ⟨a, b⟩
      · exact .inl ⟨a, b, by rw [HF.out]; exact HI.out.short hfk hc a (by omega)⟩
      · exact .inr (.inl ⟨a, b, by rw [HF.out]; exact HI.out.byte hfk hc a (by omega)⟩)
      · exact .inr (.inr (.inl ⟨a, b, by rw [HF.out]; exact HI.out.long hfk hc b⟩))
      · exact .inr (.inr (.inr ⟨a, b, by rw [HF.out]; exact HI.out.good hfk hc a b⟩))
    have FIN := hide fin
    clear fin
    rcases (show ¬ k < s.size ∨ k < s.size by omega) with hk | hk
    · have hk' : ¬ (k : Int) < (s.size : Int) := by omega
      rcases FIN.out (fun c hc => by rw [List.getElem?_eq_none (by omega)] at hc; cases hc) with ⟨a1, a2, hV⟩ | ⟨a1, a2, hV⟩ | ⟨a1, a2, hV⟩ | ⟨a1, a2, hV⟩
      · have HV := hide hV
        clear hV
        subst a1
        have q2 : (k : Int) = (s.size : Int) := by omega
        go_wp2_with fail
        go_ret3
        exact ⟨by rw [HV.out]; first | rfl | (simp; done) | (simp; omega), rfl⟩
      · have HV := hide hV
        clear hV
        exact absurd (show k = s.size by omega) a2
      · have HV := hide hV
        clear hV
        have q1 : ¬ (k : Int) = (fr : Int) := by omega
        have q2 : 10 < (k : Int) - (fr : Int) := by omega
        go_wp2_with fail
        go_ret3
        exact ⟨by rw [HV.out]; first | rfl | (simp; done) | (simp; omega), rfl⟩
      · have HV := hide hV
        clear hV
        have q1 : ¬ (k : Int) = (fr : Int) := by omega
        have q2 : ¬ 10 < (k : Int) - (fr : Int) := by omega
        go_wp2_with fail
        go_ret3
        exact ⟨by rw [HV.out]; first | rfl | (simp; done) | (simp; omega), rfl⟩
    · have hg := str_get s k hk
      have hk' : (k : Int) < (s.size : Int) := by omega
      rcases (show ¬ 48 ≤ s[k].toNat ∨ (48 ≤ s[k].toNat ∧ ¬ s[k].toNat ≤ 57) ∨ (48 ≤ s[k].toNat ∧ s[k].toNat ≤ 57) by omega) with hc | ⟨hc, hc2⟩ | ⟨hc, hc2⟩
      · have c1 : ¬ (48 : Int) ≤ (s[k].toNat : Int) := by omega
        rcases FIN.out (fun c h => by rw [hg] at h; cases h; rw [isD, decide_eq_false (by omega)]) with ⟨a1, a2, hV⟩ | ⟨a1, a2, hV⟩ | ⟨a1, a2, hV⟩ | ⟨a1, a2, hV⟩
        · have HV := hide hV
          clear hV
          exact absurd a2 (by omega)
        · have HV := hide hV
          clear hV
          subst a1
          have q2 : ¬ (k : Int) = (s.size : Int) := by omega
          go_wp2_with fail
          go_ret3
          exact ⟨by rw [HV.out]; first | rfl | (simp; done) | (simp; omega), rfl⟩
        · have HV := hide hV
          clear hV
          have q1 : ¬ (k : Int) = (fr : Int) := by omega
          have q2 : 10 < (k : Int) - (fr : Int) := by omega
          go_wp2_with fail
          go_ret3
          exact ⟨by rw [HV.out]; first | rfl | (simp; done) | (simp; omega), rfl⟩
        · have HV := hide hV
          clear hV
          have q1 : ¬ (k : Int) = (fr : Int) := by omega
          have q2 : ¬ 10 < (k : Int) - (fr : Int) := by omega
          go_wp2_with fail
          go_ret3
          exact ⟨by rw [HV.out]; first | rfl | (simp; done) | (simp; omega), rfl⟩
      · have c1 : (48 : Int) ≤ (s[k].toNat : Int) := by omega
        have c2 : ¬ (s[k].toNat : Int) ≤ 57 := by omega
        rcases FIN.out (fun c h => by rw [hg] at h; cases h; rw [isD, decide_eq_false (by omega)]) with ⟨a1, a2, hV⟩ | ⟨a1, a2, hV⟩ | ⟨a1, a2, hV⟩ | ⟨a1, a2, hV⟩
        · have HV := hide hV
          clear hV
          exact absurd a2 (by omega)
        · have HV := hide hV
          clear hV
          subst a1
          have q2 : ¬ (k : Int) = (s.size : Int) := by omega
          go_wp2_with fail
          go_ret3
          exact ⟨by rw [HV.out]; first | rfl | (simp; done) | (simp; omega), rfl⟩
        · have HV := hide hV
          clear hV
          have q1 : ¬ (k : Int) = (fr : Int) := by omega
          have q2 : 10 < (k : Int) - (fr : Int) := by omega
          go_wp2_with fail
          go_ret3
          exact ⟨by rw [HV.out]; first | rfl | (simp; done) | (simp; omega), rfl⟩
        · have HV := hide hV
          clear hV
          have q1 : ¬ (k : Int) = (fr : Int) := by omega
          have q2 : ¬ 10 < (k : Int) - (fr : Int) := by omega
          go_wp2_with fail
          go_ret3
          exact ⟨by rw [HV.out]; first | rfl | (simp; done) | (simp; omega), rfl⟩
      · have c1 : (48 : Int) ≤ (s[k].toNat : Int) := by omega
        have c2 : (s[k].toNat : Int) ≤ 57 := by omega
        have hd : isD s[k] = true := isD_iff.2 ⟨hc, hc2⟩
        by_cases h10 : k - fr < 10
        · have hi := HI.out.step hfk hg hd h10
          have hb := hi.bound
          have HI2 := hide hi
          have q1 : (k : Int) - (fr : Int) < 10 := by omega
          have j4 : IntKind.u8.wrap ((s[k].toNat : Int) - 48) = (s[k].toNat : Int) - 48 := by
            show ((s[k].toNat : Int) - 48) % 256 = _
            omega
          have j5 : IntKind.i64.wrap ((s[k].toNat : Int) - 48) = (s[k].toNat : Int) - 48 := IntWalk.i64_in _ (by omega)
          have j6 : IntKind.i64.wrap (10 * (x : Int) + ((s[k].toNat : Int) - 48)) = 10 * (x : Int) + ((s[k].toNat : Int) - 48) := IntWalk.i64_in _ (by omega)
          have e6 : 10 * (x : Int) + ((s[k].toNat : Int) - 48) = ((10 * x + (s[k].toNat - 48) : Nat) : Int) := by omega
          clear hi
          go_wp2_with fail
          go_roundg (gk - 1)
          case measure => omega
          case rel => exact ⟨rfl, k + 1, 10 * x + (s[k].toNat - 48), by go_num, by first | (rw [← e6]; done) | exact congrArg (Value.int IntKind.i64) (by omega), by omega, by omega, by omega, hb, HI2⟩
        · have HI2 := hide (HI.out.step2 hfk hg hd h10)
          have q1 : ¬ (k : Int) - (fr : Int) < 10 := by omega
          go_wp2_with fail
          go_roundg (gk - 1)
          case measure => omega
          case rel => exact ⟨rfl, k + 1, x, by go_num, rfl, by omega, by omega, by omega, hx, HI2⟩

set_option maxRecDepth 100000 in
set_option maxHeartbeats 4000000 in
theorem rnumber_any (s : ByteArray) (fr : Nat) (w : World) (hs : s.size ≤ 1000000000) (hf : fr ≤ s.size) :
    Calls Tryd.prog 53 #[.string s, .int .i64 fr] w fun e w' => e = .returned (.tuple #[.int .i64 (((numF s.data.toList fr).v : Int)), .int .i64 (((numF s.data.toList fr).at_ : Int)), .int .i64 ((numF s.data.toList fr).e), .int .i64 (numB (numF s.data.toList fr))]) ∧ w = w' := by
  have hlen : s.data.toList.length = s.size := Array.length_toList
  obtain ⟨F, hF⟩ : ∃ F, F = numF s.data.toList fr := ⟨_, rfl⟩
  rw [← hF]
  have HF := hide hF
  clear hF
  by_cases hfe : fr = s.size
  · have hV := hide (show F = ⟨0, fr, 4⟩ by rw [HF.out]; exact (NumI.start _ fr).short (Nat.le_refl _) (fun c hc => by rw [List.getElem?_eq_none (by omega)] at hc; cases hc) rfl (by omega))
    have hq : (fr : Int) = (s.size : Int) := by omega
    go_enter Tryd.func53, Tryd.ntmps53
    go_wp2_with fail
    go_ret4
    exact ⟨by rw [hV.out]; first | rfl | simp, rfl⟩
  have hq : ¬ (fr : Int) = (s.size : Int) := by omega
  have hq' : ((fr : Int) == (s.size : Int)) = false := by simpa using hq
  go_enter Tryd.func53, Tryd.ntmps53
  go_wp2_with fail
  go_loopg [8, 9] (s.size) (fun gl s0 s1 wr => wr = w ∧ ∃ k x : Nat, s0 = .int .i64 k ∧ s1 = .int .i64 x ∧ s.size - k ≤ gl ∧ fr ≤ k ∧ k ≤ s.size ∧ x ≤ 9999999999 ∧ Hid (NumI s.data.toList fr k x))
  case atStart => exact ⟨rfl, fr, 0, rfl, rfl, by omega, Nat.le_refl _, hf, by omega, hide (NumI.start _ _)⟩
  case round =>
    obtain ⟨rfl, k, x, rfl, rfl, hgl, hfk, hks, hx, HI⟩ := hrel
    have j1 : IntKind.i64.wrap ((k : Int) - (fr : Int)) = (k : Int) - (fr : Int) := IntWalk.i64_in _ (by omega)
    have j2 : IntKind.i64.wrap ((k : Int) + 1) = (k : Int) + 1 := IntWalk.i64_in _ (by omega)
    have j3 : IntKind.i64.wrap (10 * (x : Int)) = 10 * (x : Int) := IntWalk.i64_in _ (by omega)
    have fin : (∀ c, s.data.toList[k]? = some c → isD c = false) → (k = fr ∧ k = s.size ∧ F = ⟨0, k, 4⟩) ∨ (k = fr ∧ ¬ k = s.size ∧ F = ⟨0, k, 6⟩) ∨ (¬ k = fr ∧ 10 < k - fr ∧ F = ⟨0, fr, 5⟩) ∨ (¬ k = fr ∧ ¬ 10 < k - fr ∧ F = ⟨x, k, 0⟩) := fun hc => by
      rcases (show (k = fr ∧ k = s.size) ∨ (k = fr ∧ ¬ k = s.size) ∨ (¬ k = fr ∧ 10 < k - fr) ∨ (¬ k = fr ∧ ¬ 10 < k - fr) by omega) with ⟨a, b⟩ | ⟨a, b⟩ | ⟨a, b⟩ | ⟨a, b⟩
      · exact .inl ⟨a, b, by rw [HF.out]; exact HI.out.short hfk hc a (by omega)⟩
      · exact .inr (.inl ⟨a, b, by rw [HF.out]; exact HI.out.byte hfk hc a (by omega)⟩)
      · exact .inr (.inr (.inl ⟨a, b, by rw [HF.out]; exact HI.out.long hfk hc b⟩))
      · exact .inr (.inr (.inr ⟨a, b, by rw [HF.out]; exact HI.out.good hfk hc a b⟩))
    have FIN := hide fin
    clear fin
    rcases (show ¬ k < s.size ∨ k < s.size by omega) with hk | hk
    · have hk' : ¬ (k : Int) < (s.size : Int) := by omega
      rcases FIN.out (fun c hc => by rw [List.getElem?_eq_none (by omega)] at hc; cases hc) with ⟨a1, a2, hV⟩ | ⟨a1, a2, hV⟩ | ⟨a1, a2, hV⟩ | ⟨a1, a2, hV⟩
      · have HV := hide hV
        clear hV
        exact absurd (a1 ▸ a2) hfe
      · have HV := hide hV
        clear hV
        exact absurd (show k = s.size by omega) a2
      · have HV := hide hV
        clear hV
        have q1 : ¬ (k : Int) = (fr : Int) := by omega
        have q2 : 10 < (k : Int) - (fr : Int) := by omega
        go_wp2_with fail
        go_ret4
        exact ⟨by rw [HV.out]; first | rfl | (simp; done) | simp, rfl⟩
      · have HV := hide hV
        clear hV
        have q1 : ¬ (k : Int) = (fr : Int) := by omega
        have q2 : ¬ 10 < (k : Int) - (fr : Int) := by omega
        go_wp2_with fail
        go_ret4
        exact ⟨by rw [HV.out]; first | rfl | (simp; done) | simp, rfl⟩
    · have hg := str_get s k hk
      have hk' : (k : Int) < (s.size : Int) := by omega
      rcases (show ¬ 48 ≤ s[k].toNat ∨ (48 ≤ s[k].toNat ∧ ¬ s[k].toNat ≤ 57) ∨ (48 ≤ s[k].toNat ∧ s[k].toNat ≤ 57) by omega) with hc | ⟨hc, hc2⟩ | ⟨hc, hc2⟩
      · have c1 : ¬ (48 : Int) ≤ (s[k].toNat : Int) := by omega
        rcases FIN.out (fun c h => by rw [hg] at h; cases h; rw [isD, decide_eq_false (by omega)]) with ⟨a1, a2, hV⟩ | ⟨a1, a2, hV⟩ | ⟨a1, a2, hV⟩ | ⟨a1, a2, hV⟩
        · have HV := hide hV
          clear hV
          exact absurd a2 (by omega)
        · have HV := hide hV
          clear hV
          subst a1
          have q2 : ¬ (k : Int) = (s.size : Int) := by omega
          go_wp2_with fail
          go_ret4
          exact ⟨by rw [HV.out]; first | rfl | (simp; done) | simp, rfl⟩
        · have HV := hide hV
          clear hV
          have q1 : ¬ (k : Int) = (fr : Int) := by omega
          have q2 : 10 < (k : Int) - (fr : Int) := by omega
          go_wp2_with fail
          go_ret4
          exact ⟨by rw [HV.out]; first | rfl | (simp; done) | simp, rfl⟩
        · have HV := hide hV
          clear hV
          have q1 : ¬ (k : Int) = (fr : Int) := by omega
          have q2 : ¬ 10 < (k : Int) - (fr : Int) := by omega
          go_wp2_with fail
          go_ret4
          exact ⟨by rw [HV.out]; first | rfl | (simp; done) | simp, rfl⟩
      · have c1 : (48 : Int) ≤ (s[k].toNat : Int) := by omega
        have c2 : ¬ (s[k].toNat : Int) ≤ 57 := by omega
        rcases FIN.out (fun c h => by rw [hg] at h; cases h; rw [isD, decide_eq_false (by omega)]) with ⟨a1, a2, hV⟩ | ⟨a1, a2, hV⟩ | ⟨a1, a2, hV⟩ | ⟨a1, a2, hV⟩
        · have HV := hide hV
          clear hV
          exact absurd a2 (by omega)
        · have HV := hide hV
          clear hV
          subst a1
          have q2 : ¬ (k : Int) = (s.size : Int) := by omega
          go_wp2_with fail
          go_ret4
          exact ⟨by rw [HV.out]; first | rfl | (simp; done) | simp, rfl⟩
        · have HV := hide hV
          clear hV
          have q1 : ¬ (k : Int) = (fr : Int) := by omega
          have q2 : 10 < (k : Int) - (fr : Int) := by omega
          go_wp2_with fail
          go_ret4
          exact ⟨by rw [HV.out]; first | rfl | (simp; done) | simp, rfl⟩
        · have HV := hide hV
          clear hV
          have q1 : ¬ (k : Int) = (fr : Int) := by omega
          have q2 : ¬ 10 < (k : Int) - (fr : Int) := by omega
          go_wp2_with fail
          go_ret4
          exact ⟨by rw [HV.out]; first | rfl | (simp; done) | simp, rfl⟩
      · have c1 : (48 : Int) ≤ (s[k].toNat : Int) := by omega
        have c2 : (s[k].toNat : Int) ≤ 57 := by omega
        have hd : isD s[k] = true := isD_iff.2 ⟨hc, hc2⟩
        by_cases h10 : k - fr < 10
        · have hi := HI.out.step hfk hg hd h10
          have hb := hi.bound
          have HI2 := hide hi
          have q1 : (k : Int) - (fr : Int) < 10 := by omega
          have j4 : IntKind.u8.wrap ((s[k].toNat : Int) - 48) = (s[k].toNat : Int) - 48 := by
            show ((s[k].toNat : Int) - 48) % 256 = _
            omega
          have j5 : IntKind.i64.wrap ((s[k].toNat : Int) - 48) = (s[k].toNat : Int) - 48 := IntWalk.i64_in _ (by omega)
          have j6 : IntKind.i64.wrap (10 * (x : Int) + ((s[k].toNat : Int) - 48)) = 10 * (x : Int) + ((s[k].toNat : Int) - 48) := IntWalk.i64_in _ (by omega)
          have e6 : 10 * (x : Int) + ((s[k].toNat : Int) - 48) = ((10 * x + (s[k].toNat - 48) : Nat) : Int) := by omega
          clear hi
          go_wp2_with fail
          go_roundg (gk - 1)
          case measure => omega
          case rel => exact ⟨rfl, k + 1, 10 * x + (s[k].toNat - 48), by go_num, by first | (rw [← e6]; done) | exact congrArg (Value.int IntKind.i64) (by omega), by omega, by omega, by omega, hb, HI2⟩
        · have HI2 := hide (HI.out.step2 hfk hg hd h10)
          have q1 : ¬ (k : Int) - (fr : Int) < 10 := by omega
          go_wp2_with fail
          go_roundg (gk - 1)
          case measure => omega
          case rel => exact ⟨rfl, k + 1, x, by go_num, rfl, by omega, by omega, by omega, hx, HI2⟩

end Go.Proofs.YtfappkhohddcjaaDoor
