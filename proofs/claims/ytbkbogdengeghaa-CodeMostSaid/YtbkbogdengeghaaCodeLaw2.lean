/- The statements CodeReads, CodeBack, CodeMost, walked. -/
import Derived.Test.YtbkbogdengeghaaCodeLaws
namespace Go.Proofs.Ytbkbogdengeghaa
set_option linter.unusedVariables false
set_option linter.unusedSimpArgs false
open Go.RowKit

def strOf (o : Option (List UInt8 × Nat)) : ByteArray := match o with | some p => ⟨p.1.toArray⟩ | none => ByteArray.empty
def nextS (o : Option (List UInt8 × Nat)) : Int := match o with | some p => (p.2 : Int) | none => 0
theorem res3s_eq (o : Option (List UInt8 × Nat)) : res3s o = .tuple #[.string (strOf o), .int .i64 (nextS o), .bool o.isSome] := by cases o <;> rfl
def itemsOf (o : Option (List Int × Nat)) : List Int := match o with | some p => p.1 | none => []
def nextL (o : Option (List Int × Nat)) : Int := match o with | some p => (p.2 : Int) | none => 0
theorem listPost_eq {o : Option (List Int × Nat)} {B : Nat} {e : Ending} {w : World} (h : ListPost o B e w) : ∃ v, e = .returned (.tuple #[v, .int .i64 (nextL o), .bool o.isSome]) ∧ OwnG eI w B v (itemsOf o) := by
  cases o with
  | none => exact ⟨_, h, OwnG.nil _ _⟩
  | some p => exact h

set_option maxRecDepth 100000 in
set_option maxHeartbeats 1000000 in
theorem codeReads_law (a : Option Addr) (l : List UInt8) (n cap : Nat) (at_ most : Int) (w : World) (hn : l.length = n) (hl : n ≤ maxLen) (hcap : n ≤ cap) (hA : At w a l) :
    Calls Try.prog 9 #[.slice a n cap, .int .i64 at_, .int .i64 most] w fun e w' => e = .returned (.bool true) ∧ Below w.heap.size w w' := by
  unfold maxLen at hl
  have HA := hid hA
  clear hA
  by_cases h1 : 1000 < n
  · have g1 : decide ((1000 : Int) < (n : Int)) = true := by simp; omega
    go_enter Try.func9, Try.ntmps9
    go_wp2_with fail
    refine (alive1_any _).mono ?_
    rintro e w1 ⟨rfl, hb⟩
    have HW := hid hb
    clear hb
    go_wp2
    go_ret
    exact ⟨rfl, HW.out⟩
  have g1 : decide ((1000 : Int) < (n : Int)) = false := by simp; omega
  go_enter Try.func9, Try.ntmps9
  go_wp2_with fail
  refine (alive1_any _).mono ?_
  rintro e w1 ⟨rfl, hb⟩
  have HW := hid hb
  clear hb
  go_wp2_with fail
  refine (getNum_any a l n cap at_ _ hn (by omega) hcap (by exact HA.out.all HW.out)).mono ?_
  rintro e w' ⟨rfl, rfl⟩
  rw [res3_eq]
  go_wp2_with fail
  refine (rgetNum_any a l n cap at_ _ hn (by omega) (by exact HA.out.all HW.out)).mono ?_
  rintro e w2 ⟨rfl, hb⟩
  have HB2 := hid (bst HW.out hb)
  clear hb
  rw [res3_eq]
  have e1 : (numOf (getNum l at_) != numOf (getNum l at_)) = false := by simp
  have e2 : (nextOf (getNum l at_) != nextOf (getNum l at_)) = false := by simp
  have e3 : ((getNum l at_).isSome != (getNum l at_).isSome) = false := by simp
  generalize numOf (getNum l at_) = x1 at *
  generalize nextOf (getNum l at_) = x2 at *
  generalize (getNum l at_).isSome = x3 at *
  go_wp2_with fail
  refine (getText_any a l n cap at_ _ hn (by omega) hcap (by exact HA.out.all HB2.out)).mono ?_
  rintro e w' ⟨rfl, rfl⟩
  rw [res3s_eq]
  go_wp2_with fail
  refine (rgetText_any a l n cap at_ _ hn (by omega) hcap (by exact HA.out.all HB2.out)).mono ?_
  rintro e w3 ⟨rfl, hb⟩
  have HB3 := hid (bst HB2.out hb)
  clear hb e1 e2 e3
  rw [res3s_eq]
  have e2 : (nextS (getText l at_) != nextS (getText l at_)) = false := by simp
  have e3 : ((getText l at_).isSome != (getText l at_).isSome) = false := by simp
  generalize strOf (getText l at_) = y1 at *
  generalize nextS (getText l at_) = y2 at *
  generalize (getText l at_).isSome = y3 at *
  have e4 : (y1.toList != y1.toList) = false := by simp
  go_wp2_with fail
  refine (getList_any a l n cap at_ most _ hn (by omega) hcap (by exact HA.out.all HB3.out)).mono ?_
  rintro e w4 ⟨hpost, hb⟩
  have HB4 := hid (bst HB3.out hb)
  obtain ⟨v4, rfl, hown⟩ := listPost_eq hpost
  have HO4 := hid hown
  clear hb hpost hown e2 e3 e4
  go_wp2_with fail
  refine (rgetList_any a l n cap at_ most _ hn (by omega) (by exact HA.out.all HB4.out)).mono ?_
  rintro e w5 ⟨hpost, hb⟩
  have HB5 := hid (bst HB4.out hb)
  obtain ⟨v5, rfl, hown⟩ := listPost_eq hpost
  obtain ⟨a4, c4, hv4, hc4, hm4, _, hat4⟩ := (HO4.out.stay hb).sl eIok
  obtain ⟨a5, c5, hv5, hc5, hm5, _, hat5⟩ := hown.sl eIok
  subst hv4 hv5
  have hli : (itemsOf (getList l at_ most)).length ≤ maxLen := by omega
  have e2 : (nextL (getList l at_ most) == nextL (getList l at_ most)) = true := by simp
  have e3 : ((getList l at_ most).isSome == (getList l at_ most).isSome) = true := by simp
  have H4 := hid hat4
  have H5 := hid hat5
  clear hb hpost hown hat4 hat5 hc4 hm4 hc5 hm5
  generalize itemsOf (getList l at_ most) = z1 at *
  generalize nextL (getList l at_ most) = z2 at *
  generalize (getList l at_ most).isSome = z3 at *
  go_wp2_with fail
  refine (ints_any a4 a5 z1 z1 _ _ c4 c5 _ rfl rfl hli hli (by exact H4.out) (by exact H5.out)).mono ?_
  rintro e w' ⟨rfl, n6, rfl⟩
  have e5 : (z1 == z1) = true := by simp
  go_wp2
  go_ret
  exact ⟨rfl, below_drewN HB5.out n6⟩

theorem str_back (s : ByteArray) : (⟨s.data.toList.toArray⟩ : ByteArray) = s := by cases s; simp

/-- The guards of CodeBack, as the walk spells them. -/
def BackGuards (p q r : Nat) (f1 f2 f3 : Bool) : Prop := decide ((1000 : Int) < (p : Int)) = f1 ∧ decide ((200 : Int) < (q : Int)) = f2 ∧ decide ((1000 : Int) < (r : Int)) = f3

set_option maxRecDepth 100000 in
set_option maxHeartbeats 2000000 in
theorem codeBack_law (n : Int) (s : ByteArray) (a b : Option Addr) (l : List Int) (r : List UInt8) (k j ca cb : Nat) (w : World) (hs : s.size ≤ maxLen) (hk : l.length = k) (hkm : k ≤ maxLen) (hA : AtG eI w a l)
    (hj : r.length = j) (hjm : j ≤ maxLen) (hcb : j ≤ cb) (hB : At w b r) :
    Calls Try.prog 10 #[.int .i64 n, .string s, .slice a k ca, .slice b j cb] w fun e w' => e = .returned (.bool true) ∧ Below w.heap.size w w' := by
  unfold maxLen at hs hkm hjm
  have HA := hid hA
  have HB := hid hB
  clear hA hB
  by_cases h1 : 1000 < s.size
  · have g1 : decide ((1000 : Int) < (s.size : Int)) = true := by simp; omega
    go_enter Try.func10, Try.ntmps10
    go_wp2_with fail
    refine (alive1_any _).mono ?_
    rintro e w1 ⟨rfl, hb⟩
    have HW := hid hb
    clear hb
    go_wp2
    go_ret
    exact ⟨rfl, HW.out⟩
  have g1 : decide ((1000 : Int) < (s.size : Int)) = false := by simp; omega
  by_cases h2 : 200 < k
  · have g2 : decide ((200 : Int) < (k : Int)) = true := by simp; omega
    go_enter Try.func10, Try.ntmps10
    go_wp2_with fail
    refine (alive1_any _).mono ?_
    rintro e w1 ⟨rfl, hb⟩
    have HW := hid hb
    clear hb
    go_wp2
    go_ret
    exact ⟨rfl, HW.out⟩
  have g2 : decide ((200 : Int) < (k : Int)) = false := by simp; omega
  by_cases h3 : 1000 < j
  · have g3 : decide ((1000 : Int) < (j : Int)) = true := by simp; omega
    go_enter Try.func10, Try.ntmps10
    go_wp2_with fail
    refine (alive1_any _).mono ?_
    rintro e w1 ⟨rfl, hb⟩
    have HW := hid hb
    clear hb
    go_wp2
    go_ret
    exact ⟨rfl, HW.out⟩
  have g3 : decide ((1000 : Int) < (j : Int)) = false := by simp; omega
  -- what is put
  have HText : Hid (∀ R, getText (codeText s.data.toList ++ R) 0 = some (s.data.toList, (codeText s.data.toList).length)) := fun R => getText_put _ R (by simp [isNum]; omega)
  have HList : Hid (∀ P R, codeList l ≠ [] → getList (P ++ codeList l ++ R) (P.length : Int) 200 = some (l, P.length + (codeList l).length)) := by
    intro P R hne
    obtain ⟨q1, q2, q3⟩ := codeList_pos hne (by omega)
    rw [q2, getList_put P R l 200 q1 q3, if_neg (by omega)]
  have hTl : (codeText s.data.toList).length ≤ 1008 := by
    unfold codeText; rw [List.length_append]; have := codeNum_len s.data.toList.length; have e : s.data.toList.length = s.size := by simp
    omega
  have hLl : (codeList l).length ≤ 2000 := by
    unfold codeList
    split
    · rw [List.length_append]
      have h2 : ∀ q : List Int, (q.flatMap codeNum).length ≤ 8 * q.length := by
        intro q
        induction q with
        | nil => simp
        | cons x q ih => rw [List.flatMap_cons, List.length_append, List.length_cons]; have := codeNum_len x; omega
      have := h2 l
      have := codeNum_len l.length
      omega
    · simp
  go_enter Try.func10, Try.ntmps10
  go_wp2_with fail
  refine (alive1_any _).mono ?_
  rintro e w1 ⟨rfl, hb⟩
  have HW := hid hb
  clear hb
  go_wp2_with fail
  refine (text_any s (by omega) _).mono ?_
  rintro e w2 ⟨v2, rfl, hown, hb⟩
  obtain ⟨a2, c2, rfl, _, _, hat⟩ := hown.sl
  have HT2 := hid hat
  have HB2 := hid (bst HW.out hb)
  clear hown hat hb
  generalize hT : codeText s.data.toList = T at *
  generalize hnT : T.length = nT at *
  have HnT := hid hnT
  have HTe := hid hT
  clear hT hnT g1 g2 g3
  go_wp2_with (at_builtin; refine wpList_app (by rfl) (.tmp 40) (.tmp 42) 22 22 22 rfl rfl _ _ rfl rfl (run_app0 _ a2 T nT c2 HnT.out (by exact HT2.out) (by omega)) ?_; rintro v3 w3 ⟨hown3, hb3⟩; obtain ⟨a3, c3, hv3, hc3, hm3, hat3⟩ := hown3.sl; rw [HnT.out] at hv3; subst hv3; have HO3 := hid hown3; have HT3 := hid hat3; have HB3 := hid (bst HB2.out hb3); have HG3 := hid hb3; clear hown3 hb3 hat3 hc3 hm3)
  refine (list_any a l k ca _ hk (by omega) (by exact HA.out.all eIok HB3.out)).mono ?_
  rintro e w4 ⟨v4, rfl, hown, hb⟩
  obtain ⟨a4, c4, rfl, _, _, hat⟩ := hown.sl
  have HT4 := hid hat
  have HB4 := hid (bst HB3.out hb)
  have HO4 := hid (HO3.out.stay hb)
  have hsz4 := Nat.le_trans HG3.out.size hb.size
  clear hown hat hb
  generalize hL : codeList l = L at *
  generalize hnL : L.length = nL at *
  have HnL := hid hnL
  have HLe := hid hL
  clear hL hnL
  have HTL : Hid ((T ++ L).length = nT + nL) := by rw [Hid, List.length_append, HnT.out, HnL.out]
  have hTL : T.length + nL ≤ 140737488355328 := by rw [HnT.out]; omega
  have HTLb := hid hTL
  clear hTL
  go_wp2_with (first
    | (at_builtin; refine wpList_app (by rfl) (.tmp 46) (.tmp 48) 22 22 22 rfl rfl _ _ rfl rfl (run_app1 _ w2.heap.size _ T (by exact HO4.out) a4 L nL c4 HnL.out (by exact HT4.out) HTLb.out hsz4) ?_; rintro v5 w5 ⟨hown5, hb5⟩; obtain ⟨a5, c5, hv5, hc5, hm5, hat5⟩ := hown5.sl; rw [HTL.out] at hv5; subst hv5; have HO5 := hid hown5; have HB5 := hid (HB4.out.trans (hb5.mono (HB2.out.size))); have hsz5 := Nat.le_trans hsz4 hb5.size; clear hown5 hb5 hat5 hc5 hm5)
    | (at_builtin; refine wpList_app (by rfl) (.tmp 52) (.tmp 53) 22 22 22 rfl rfl _ _ rfl rfl (run_app1 _ w2.heap.size _ (T ++ L) (by exact HO5.out) b r j cb hj (by exact HB.out.all HB5.out) (by rw [HTL.out]; omega) hsz5) ?_; rintro v6 w6 ⟨hown6, hb6⟩; obtain ⟨a6, c6, hv6, hc6, hm6, hat6⟩ := hown6.sl; have HC6 := hid hc6; have HT6 := hid hat6; have HB6 := hid (HB5.out.trans (hb6.mono (HB2.out.size))); generalize hN6 : (T ++ L ++ r).length = N at hv6; have HN6 := hid hN6; subst hv6; clear hown6 hb6 hat6 hc6 hm6 hN6))
  have hN : N = nT + nL + j := by rw [← HN6.out, List.length_append, HTL.out, hj]
  have hNb : N ≤ 8796093022208 := by omega
  have hNc : N ≤ c6 := by rw [← HN6.out]; exact HC6.out
  have HNe := hid hN
  clear hN
  refine (getText_any a6 (T ++ L ++ r) N c6 0 _ HN6.out (by omega) hNc (by exact HT6.out)).mono ?_
  rintro e w' ⟨rfl, rfl⟩
  have eT : getText (T ++ L ++ r) 0 = some (s.data.toList, nT) := by rw [List.append_assoc]; exact HText.out (L ++ r)
  rw [eT, res3s, str_back]
  clear eT
  have e1 : (s.toList != s.toList) = false := by simp
  have e2 : ((nT : Int) != (nT : Int)) = false := by simp
  by_cases hnl : nL = 0
  · subst hnl
    go_wp2_with fail
    have HBt := HB6
    generalize w6 = wt at HBt ⊢
    refine (num_any _ _).mono ?_
    rintro e w8 ⟨v8, rfl, hown8, hb8⟩
    have HB8 := hid (bst HBt.out hb8)
    obtain ⟨a8, c8, hv8, _, _, hat8⟩ := hown8.sl
    have HT8 := hid hat8
    clear hown8 hb8 hat8
    have hcl8 := codeNum_len n
    have HP8 := hid (fun h => getNum_put [] r n h)
    have HZ8 := hid (codeNum_nil n)
    generalize hX : codeNum n = X at *
    generalize hnX : X.length = nX at *
    have HnX := hid hnX
    have HXe := hid hX
    clear hX hnX
    subst hv8
    by_cases hnum : isNum n = true
    · have hpos : 0 < nX := by
        rcases Nat.eq_zero_or_pos nX with h | h
        · have h2 := HZ8.out.1 (List.eq_nil_of_length_eq_zero (by rw [HnX.out, h])); rw [hnum] at h2; cases h2
        · exact h
      have g6 : decide (0 < nX) = true := by simp; omega
      have g6' : decide ((0 : Int) < (nX : Int)) = true := by simp; omega
      have eP : getNum (X ++ r) 0 = some (n.toNat, nX) := by have := HP8.out hnum; simpa using this
      have HEP := hid eP
      have HNN : Hid ((n.toNat : Int) = n) := by
        have := hnum; simp [isNum] at this; rw [Hid]; omega
      have hbE := (Below.refl w8.heap.size w8).alloc (Nat.le_refl _) (.cells #[] 5)
      have HO8 := hid (own_new w8 w8.heap.size [] #[] 0 rfl rfl (by simp) (Nat.le_refl _))
      have HT8' := hid (HT8.out.all hbE)
      have HBE := hid (bst HB8.out hbE)
      have hszE := hbE.size
      clear hbE eP hnum
      have HXr : Hid ((X ++ r).length = nX + j) := by rw [Hid, List.length_append, HnX.out, hj]
      go_wp2_with (first
        | (at_builtin; refine wpList_app (by rfl) (.tmp 102) (.tmp 103) 22 22 22 rfl rfl _ _ rfl rfl (run_app1 (w8.alloc (.cells #[] 5)) w8.heap.size _ [] (by exact HO8.out) a8 X nX c8 HnX.out (by exact HT8'.out) (by simp; omega) hszE) ?_; rintro v9 w9 ⟨hown9, hb9⟩; have HO9 := hid hown9; have HB9 := hid (HBE.out.trans (hb9.mono HB8.out.size)); have hsz9 := Nat.le_trans hszE hb9.size; clear hown9 hb9)
        | (at_builtin; refine wpList_app (by rfl) (.tmp 104) (.tmp 105) 22 22 22 rfl rfl _ _ rfl rfl (run_app1 w9 w8.heap.size _ ([] ++ X) (by exact HO9.out) b r j cb hj (by exact HB.out.all HB9.out) (by simp [HnX.out]; omega) hsz9) ?_; rintro va wa ⟨howna, hba⟩; have HBa := hid (HB9.out.trans (hba.mono HB8.out.size)); rw [List.nil_append] at howna; obtain ⟨aa, ca', hva, hca, hma, hata⟩ := howna.sl; rw [HXr.out] at hva hca; subst hva; have HTa := hid hata; have HCa := hid hca; clear howna hba hata hca hma))
      refine (getNum_any aa (X ++ r) (nX + j) ca' 0 _ HXr.out (by omega) HCa.out (by exact HTa.out)).mono ?_
      rintro e w' ⟨rfl, rfl⟩
      rw [HEP.out, res3]
      have e5 : (n != n) = false := by simp
      have e6 : ((nX : Int) != (nX : Int)) = false := by simp
      have HBz := HBa
      rw [HNN.out]
      generalize wa = wz at HBz ⊢
      go_wp2_with fail
      have HRb : Hid (At wz b r) := HB.out.all HBz.out
      refine (getNum_any b r j cb 0 _ hj (by omega) hcb (by exact HRb.out)).mono ?_
      rintro e w' ⟨rfl, rfl⟩
      rcases hg : getNum r 0 with _ | ⟨m, x⟩
      · rw [res3]
        have HGn := hid hg
        clear hg
        go_wp2
        go_quiet (fail)
        go_wp2
        go_ret
        exact ⟨rfl, below_drewN HBz.out _⟩
      · obtain ⟨_, _, hx2, _⟩ := getNum_some hg
        rw [hj] at hx2
        have HGb := hid (getNum_back hg)
        have HTk : Hid ((r.take x).length = x) := by rw [Hid, List.length_take, hj]; omega
        have ecut := cut_hI b j cb x x rfl (by omega)
        have HCu := hid (HRb.out.h x cb (by omega))
        have hxm : x ≤ maxLen := by unfold maxLen; omega
        rw [res3]
        clear hg
        go_wp2
        go_region_held3 (fun _ => True) (trivial) (first
          | (go_at_call 24; refine (num_any _ _).mono ?_; rintro e wy ⟨vy, rfl, howny, hby⟩; obtain ⟨ay, cy, hvy, _, _, haty⟩ := howny.sl; rw [HGb.out] at hvy haty; rw [HTk.out] at hvy; subst hvy; have HY := hid (And.intro haty (undrew hby)); clear howny hby haty)
          | (go_at_call 19; refine (bytes_any _ _ (r.take x) (r.take x) _ _ _ _ _ HTk.out HTk.out hxm hxm (by exact HY.out.1) (by exact HCu.out.all HY.out.2)).mono ?_; rintro e w' ⟨rfl, nz, rfl⟩))
        have eb : (r.take x == r.take x) = true := by simp
        go_wp2
        go_ret
        exact ⟨by simp, below_drewN (bst HBz.out HY.out.2) _⟩

    · have hnum' : isNum n = false := by simpa using hnum
      have hz : nX = 0 := by rw [← HnX.out, HZ8.out.2 hnum']; rfl
      have g6 : decide (0 < nX) = false := by simp; omega
      have g6' : decide ((0 : Int) < (nX : Int)) = false := by simp; omega
      have HBz := HB8
      clear hnum hnum' hz
      generalize w8 = wz at HBz ⊢
      go_wp2_with fail
      have HRb : Hid (At wz b r) := HB.out.all HBz.out
      refine (getNum_any b r j cb 0 _ hj (by omega) hcb (by exact HRb.out)).mono ?_
      rintro e w' ⟨rfl, rfl⟩
      rcases hg : getNum r 0 with _ | ⟨m, x⟩
      · rw [res3]
        have HGn := hid hg
        clear hg
        go_wp2
        go_quiet (fail)
        go_wp2
        go_ret
        exact ⟨rfl, below_drewN HBz.out _⟩
      · obtain ⟨_, _, hx2, _⟩ := getNum_some hg
        rw [hj] at hx2
        have HGb := hid (getNum_back hg)
        have HTk : Hid ((r.take x).length = x) := by rw [Hid, List.length_take, hj]; omega
        have ecut := cut_hI b j cb x x rfl (by omega)
        have HCu := hid (HRb.out.h x cb (by omega))
        have hxm : x ≤ maxLen := by unfold maxLen; omega
        rw [res3]
        clear hg
        go_wp2
        go_region_held3 (fun _ => True) (trivial) (first
          | (go_at_call 24; refine (num_any _ _).mono ?_; rintro e wy ⟨vy, rfl, howny, hby⟩; obtain ⟨ay, cy, hvy, _, _, haty⟩ := howny.sl; rw [HGb.out] at hvy haty; rw [HTk.out] at hvy; subst hvy; have HY := hid (And.intro haty (undrew hby)); clear howny hby haty)
          | (go_at_call 19; refine (bytes_any _ _ (r.take x) (r.take x) _ _ _ _ _ HTk.out HTk.out hxm hxm (by exact HY.out.1) (by exact HCu.out.all HY.out.2)).mono ?_; rintro e w' ⟨rfl, nz, rfl⟩))
        have eb : (r.take x == r.take x) = true := by simp
        go_wp2
        go_ret
        exact ⟨by simp, below_drewN (bst HBz.out HY.out.2) _⟩
  · have g5 : decide ((nT : Int) < (nT : Int) + (nL : Int)) = true := by simp; omega
    have hLne : L ≠ [] := by
      intro h; apply hnl; rw [← HnL.out, h]; rfl
    have eL := HList.out T r hLne
    rw [HnT.out] at eL
    have HEL := hid eL
    clear eL hLne
    go_wp2_with fail
    refine (getList_any a6 (T ++ L ++ r) N c6 nT 200 _ HN6.out (by omega) hNc (by exact HT6.out)).mono ?_
    rintro e w7 ⟨hpost, hb7⟩
    have HB7 := hid (bst HB6.out hb7)
    rw [HEL.out] at hpost
    obtain ⟨v7, rfl, hown7⟩ := hpost
    obtain ⟨a7, c7, hv7, _, _, _, hat7⟩ := hown7.sl eIok
    subst hv7
    have HT7 := hid hat7
    have e3 : (((nT + nL : Nat) : Int) != (nT : Int) + (nL : Int)) = false := by simp
    have e4 : ((nT : Int) + (nL : Int) != (nT : Int) + (nL : Int)) = false := by simp
    have hkm' : k ≤ maxLen := by unfold maxLen; omega
    have HT7' : Hid (AtG eI w7 a l) := HA.out.all eIok HB7.out
    clear hb7 hown7 hat7
    go_wp2_with fail
    refine (ints_any a7 a l l k k c7 ca _ hk hk hkm' hkm' (by exact HT7.out) (by exact HT7'.out)).mono ?_
    rintro e w' ⟨rfl, n7, rfl⟩
    have ei : (l == l) = true := by simp
    rw [ei]
    have HBt := hid (below_drewN HB7.out n7)
    generalize w7.drewN n7 = wt at HBt ⊢
    go_wp2_with fail
    refine (num_any _ _).mono ?_
    rintro e w8 ⟨v8, rfl, hown8, hb8⟩
    have HB8 := hid (bst HBt.out hb8)
    obtain ⟨a8, c8, hv8, _, _, hat8⟩ := hown8.sl
    have HT8 := hid hat8
    clear hown8 hb8 hat8
    have hcl8 := codeNum_len n
    have HP8 := hid (fun h => getNum_put [] r n h)
    have HZ8 := hid (codeNum_nil n)
    generalize hX : codeNum n = X at *
    generalize hnX : X.length = nX at *
    have HnX := hid hnX
    have HXe := hid hX
    clear hX hnX
    subst hv8
    by_cases hnum : isNum n = true
    · have hpos : 0 < nX := by
        rcases Nat.eq_zero_or_pos nX with h | h
        · have h2 := HZ8.out.1 (List.eq_nil_of_length_eq_zero (by rw [HnX.out, h])); rw [hnum] at h2; cases h2
        · exact h
      have g6 : decide (0 < nX) = true := by simp; omega
      have g6' : decide ((0 : Int) < (nX : Int)) = true := by simp; omega
      have eP : getNum (X ++ r) 0 = some (n.toNat, nX) := by have := HP8.out hnum; simpa using this
      have HEP := hid eP
      have HNN : Hid ((n.toNat : Int) = n) := by
        have := hnum; simp [isNum] at this; rw [Hid]; omega
      have hbE := (Below.refl w8.heap.size w8).alloc (Nat.le_refl _) (.cells #[] 5)
      have HO8 := hid (own_new w8 w8.heap.size [] #[] 0 rfl rfl (by simp) (Nat.le_refl _))
      have HT8' := hid (HT8.out.all hbE)
      have HBE := hid (bst HB8.out hbE)
      have hszE := hbE.size
      clear hbE eP hnum
      have HXr : Hid ((X ++ r).length = nX + j) := by rw [Hid, List.length_append, HnX.out, hj]
      go_wp2_with (first
        | (at_builtin; refine wpList_app (by rfl) (.tmp 102) (.tmp 103) 22 22 22 rfl rfl _ _ rfl rfl (run_app1 (w8.alloc (.cells #[] 5)) w8.heap.size _ [] (by exact HO8.out) a8 X nX c8 HnX.out (by exact HT8'.out) (by simp; omega) hszE) ?_; rintro v9 w9 ⟨hown9, hb9⟩; have HO9 := hid hown9; have HB9 := hid (HBE.out.trans (hb9.mono HB8.out.size)); have hsz9 := Nat.le_trans hszE hb9.size; clear hown9 hb9)
        | (at_builtin; refine wpList_app (by rfl) (.tmp 104) (.tmp 105) 22 22 22 rfl rfl _ _ rfl rfl (run_app1 w9 w8.heap.size _ ([] ++ X) (by exact HO9.out) b r j cb hj (by exact HB.out.all HB9.out) (by simp [HnX.out]; omega) hsz9) ?_; rintro va wa ⟨howna, hba⟩; have HBa := hid (HB9.out.trans (hba.mono HB8.out.size)); rw [List.nil_append] at howna; obtain ⟨aa, ca', hva, hca, hma, hata⟩ := howna.sl; rw [HXr.out] at hva hca; subst hva; have HTa := hid hata; have HCa := hid hca; clear howna hba hata hca hma))
      refine (getNum_any aa (X ++ r) (nX + j) ca' 0 _ HXr.out (by omega) HCa.out (by exact HTa.out)).mono ?_
      rintro e w' ⟨rfl, rfl⟩
      rw [HEP.out, res3]
      have e5 : (n != n) = false := by simp
      have e6 : ((nX : Int) != (nX : Int)) = false := by simp
      have HBz := HBa
      rw [HNN.out]
      generalize wa = wz at HBz ⊢
      go_wp2_with fail
      have HRb : Hid (At wz b r) := HB.out.all HBz.out
      refine (getNum_any b r j cb 0 _ hj (by omega) hcb (by exact HRb.out)).mono ?_
      rintro e w' ⟨rfl, rfl⟩
      rcases hg : getNum r 0 with _ | ⟨m, x⟩
      · rw [res3]
        have HGn := hid hg
        clear hg
        go_wp2
        go_quiet (fail)
        go_wp2
        go_ret
        exact ⟨rfl, below_drewN HBz.out _⟩
      · obtain ⟨_, _, hx2, _⟩ := getNum_some hg
        rw [hj] at hx2
        have HGb := hid (getNum_back hg)
        have HTk : Hid ((r.take x).length = x) := by rw [Hid, List.length_take, hj]; omega
        have ecut := cut_hI b j cb x x rfl (by omega)
        have HCu := hid (HRb.out.h x cb (by omega))
        have hxm : x ≤ maxLen := by unfold maxLen; omega
        rw [res3]
        clear hg
        go_wp2
        go_region_held3 (fun _ => True) (trivial) (first
          | (go_at_call 24; refine (num_any _ _).mono ?_; rintro e wy ⟨vy, rfl, howny, hby⟩; obtain ⟨ay, cy, hvy, _, _, haty⟩ := howny.sl; rw [HGb.out] at hvy haty; rw [HTk.out] at hvy; subst hvy; have HY := hid (And.intro haty (undrew hby)); clear howny hby haty)
          | (go_at_call 19; refine (bytes_any _ _ (r.take x) (r.take x) _ _ _ _ _ HTk.out HTk.out hxm hxm (by exact HY.out.1) (by exact HCu.out.all HY.out.2)).mono ?_; rintro e w' ⟨rfl, nz, rfl⟩))
        have eb : (r.take x == r.take x) = true := by simp
        go_wp2
        go_ret
        exact ⟨by simp, below_drewN (bst HBz.out HY.out.2) _⟩

    · have hnum' : isNum n = false := by simpa using hnum
      have hz : nX = 0 := by rw [← HnX.out, HZ8.out.2 hnum']; rfl
      have g6 : decide (0 < nX) = false := by simp; omega
      have g6' : decide ((0 : Int) < (nX : Int)) = false := by simp; omega
      have HBz := HB8
      clear hnum hnum' hz
      generalize w8 = wz at HBz ⊢
      go_wp2_with fail
      have HRb : Hid (At wz b r) := HB.out.all HBz.out
      refine (getNum_any b r j cb 0 _ hj (by omega) hcb (by exact HRb.out)).mono ?_
      rintro e w' ⟨rfl, rfl⟩
      rcases hg : getNum r 0 with _ | ⟨m, x⟩
      · rw [res3]
        have HGn := hid hg
        clear hg
        go_wp2
        go_quiet (fail)
        go_wp2
        go_ret
        exact ⟨rfl, below_drewN HBz.out _⟩
      · obtain ⟨_, _, hx2, _⟩ := getNum_some hg
        rw [hj] at hx2
        have HGb := hid (getNum_back hg)
        have HTk : Hid ((r.take x).length = x) := by rw [Hid, List.length_take, hj]; omega
        have ecut := cut_hI b j cb x x rfl (by omega)
        have HCu := hid (HRb.out.h x cb (by omega))
        have hxm : x ≤ maxLen := by unfold maxLen; omega
        rw [res3]
        clear hg
        go_wp2
        go_region_held3 (fun _ => True) (trivial) (first
          | (go_at_call 24; refine (num_any _ _).mono ?_; rintro e wy ⟨vy, rfl, howny, hby⟩; obtain ⟨ay, cy, hvy, _, _, haty⟩ := howny.sl; rw [HGb.out] at hvy haty; rw [HTk.out] at hvy; subst hvy; have HY := hid (And.intro haty (undrew hby)); clear howny hby haty)
          | (go_at_call 19; refine (bytes_any _ _ (r.take x) (r.take x) _ _ _ _ _ HTk.out HTk.out hxm hxm (by exact HY.out.1) (by exact HCu.out.all HY.out.2)).mono ?_; rintro e w' ⟨rfl, nz, rfl⟩))
        have eb : (r.take x == r.take x) = true := by simp
        go_wp2
        go_ret
        exact ⟨by simp, below_drewN (bst HBz.out HY.out.2) _⟩

set_option maxRecDepth 100000 in
set_option maxHeartbeats 2000000 in
theorem codeMost_law (a b : Option Addr) (l : List Int) (r : List UInt8) (most : Int) (k j ca cb : Nat) (w : World) (hk : l.length = k) (hkm : k * 8 ≤ 140737488351232) (hA : AtG eI w a l)
    (hj : r.length = j) (hjm : j ≤ maxLen) (hB : At w b r) :
    Calls Try.prog 12 #[.slice a k ca, .int .i64 most, .slice b j cb] w fun e w' => e = .returned (.bool true) ∧ Below w.heap.size w w' := by
  unfold maxLen at hjm
  have HA := hid hA
  have HB := hid hB
  clear hA hB
  by_cases h2 : 200 < k
  · have g2 : decide ((200 : Int) < (k : Int)) = true := by simp; omega
    go_enter Try.func12, Try.ntmps12
    go_wp2_with fail
    refine (alive1_any _).mono ?_
    rintro e w1 ⟨rfl, hb⟩
    have HW := hid hb
    clear hb
    go_wp2_with fail
    refine (list_any a l k ca _ hk hkm (by exact HA.out.all eIok HW.out)).mono ?_
    rintro e w2 ⟨v2, rfl, hown, hb⟩
    have HB2 := hid (bst HW.out hb)
    clear hb hown
    go_wp2
    go_ret
    exact ⟨rfl, HB2.out⟩
  have g2 : decide ((200 : Int) < (k : Int)) = false := by simp; omega
  by_cases h3 : 300 < j
  · have g3 : decide ((300 : Int) < (j : Int)) = true := by simp; omega
    go_enter Try.func12, Try.ntmps12
    go_wp2_with fail
    refine (alive1_any _).mono ?_
    rintro e w1 ⟨rfl, hb⟩
    have HW := hid hb
    clear hb
    go_wp2_with fail
    refine (list_any a l k ca _ hk hkm (by exact HA.out.all eIok HW.out)).mono ?_
    rintro e w2 ⟨v2, rfl, hown, hb⟩
    have HB2 := hid (bst HW.out hb)
    clear hb hown
    go_wp2
    go_ret
    exact ⟨rfl, HB2.out⟩
  have g3 : decide ((300 : Int) < (j : Int)) = false := by simp; omega
  have HList : Hid (codeList l ≠ [] → getList (codeList l ++ r) 0 most = if most < (k : Int) then none else some (l, (codeList l).length)) := by
    intro hne
    obtain ⟨q1, q2, q3⟩ := codeList_pos hne (by omega)
    have := getList_put [] r l most q1 q3
    rw [q2, ← hk]
    simpa using this
  go_enter Try.func12, Try.ntmps12
  go_wp2_with fail
  refine (alive1_any _).mono ?_
  rintro e w1 ⟨rfl, hb⟩
  have HW := hid hb
  clear hb
  go_wp2_with fail
  refine (list_any a l k ca _ hk hkm (by exact HA.out.all eIok HW.out)).mono ?_
  rintro e w2 ⟨v2, rfl, hown, hb⟩
  obtain ⟨a2, c2, hv2, hc2, hm2, _⟩ := hown.sl
  have HO2 := hid hown
  have HB2 := hid (bst HW.out hb)
  have hsz2 := hb.size
  clear hown hb
  generalize hL : codeList l = L at *
  have HLe := hid hL
  clear hL
  have hLl : L.length ≤ 140737488355328 - 300 := by
    have h2 : ∀ q : List Int, (q.flatMap codeNum).length ≤ 8 * q.length := by
      intro q
      induction q with
      | nil => simp
      | cons x q ih => rw [List.flatMap_cons, List.length_append, List.length_cons]; have := codeNum_len x; omega
    rw [← HLe.out]
    unfold codeList
    split
    · rw [List.length_append]
      have := h2 l
      have := codeNum_len l.length
      omega
    · simp
  generalize hnL : L.length = nL at *
  have HnL := hid hnL
  clear hnL
  subst hv2
  by_cases hz : nL = 0
  · have g4 : ((nL : Int) == 0) = true := by simp; omega
    clear hz
    go_wp2
    go_ret
    exact ⟨rfl, HB2.out⟩
  have g4 : ((nL : Int) == 0) = false := by simp; omega
  have hLne : L ≠ [] := by
    intro h; apply hz; rw [← HnL.out, h]; rfl
  have HEL := hid (HList.out hLne)
  have HLr : Hid ((L ++ r).length = nL + j) := by rw [Hid, List.length_append, HnL.out, hj]
  have hLb := HnL.out
  have HLb : Hid (L.length + j ≤ 140737488355328) := by rw [Hid, hLb]; omega
  have hnb : nL ≤ 1700 := by
    have h2 : ∀ q : List Int, (q.flatMap codeNum).length ≤ 8 * q.length := by
      intro q
      induction q with
      | nil => simp
      | cons x q ih => rw [List.flatMap_cons, List.length_append, List.length_cons]; have := codeNum_len x; omega
    rw [← hLb, ← HLe.out]
    unfold codeList
    split
    · rw [List.length_append]
      have := h2 l
      have := codeNum_len l.length
      omega
    · simp
  clear hLne hLb hLl
  go_wp2_with (at_builtin; refine wpList_app (by rfl) (.tmp 28) (.tmp 29) 22 22 22 rfl rfl _ _ rfl rfl (run_app1 w2 w1.heap.size _ L (by exact HO2.out) b r j cb hj (by exact HB.out.all HB2.out) HLb.out hsz2) ?_; rintro v3 w3 ⟨hown3, hb3⟩; obtain ⟨a3, c3, hv3, hc3, hm3, hat3⟩ := hown3.sl; rw [HLr.out] at hv3 hc3; subst hv3; have HT3 := hid hat3; have HC3 := hid hc3; have HB3 := hid (HB2.out.trans (hb3.mono HW.out.size)); clear hown3 hb3 hat3 hc3 hm3)
  refine (getList_any a3 (L ++ r) (nL + j) c3 0 most _ HLr.out (by omega) HC3.out (by exact HT3.out)).mono ?_
  rintro e w4 ⟨hpost, hb4⟩
  have HB4 := hid (bst HB3.out hb4)
  rw [HEL.out] at hpost
  clear hb4
  by_cases hmk : most < (k : Int)
  · have g5 : decide (most < (k : Int)) = true := by simp; omega
    rw [if_pos hmk] at hpost
    have he : e = .returned (.tuple #[.slice none 0 0, .int .i64 0, .bool false]) := hpost
    subst he
    clear hpost
    go_wp2
    go_ret
    exact ⟨rfl, HB4.out⟩
  · have g5 : decide (most < (k : Int)) = false := by simp; omega
    rw [if_neg hmk] at hpost
    obtain ⟨v4, rfl, hown4⟩ := hpost
    obtain ⟨a4, c4, hv4, _, _, _, _⟩ := hown4.sl eIok
    rw [hk] at hv4
    subst hv4
    clear hown4
    have e1 : ((k : Int) == (k : Int)) = true := by simp
    have e2 : ((nL : Int) == (nL : Int)) = true := by simp
    go_wp2
    go_ret
    exact ⟨by simp, HB4.out⟩

end Go.Proofs.Ytbkbogdengeghaa
