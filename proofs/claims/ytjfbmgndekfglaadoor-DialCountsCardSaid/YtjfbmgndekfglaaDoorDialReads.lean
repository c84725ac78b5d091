/- The reader of a dial's text: its steps. The reader of the example's text. dial.Parse at the example's text. dial.Add at the example. -/
import Derived.Test.YtjfbmgndekfglaaDoorDialLib
import Derived.Deep.LoopGhost
import Derived.Defers
import Derived.Recover
namespace Go.Proofs.YtjfbmgndekfglaaDoor
set_option linter.unusedVariables false
set_option linter.unusedSimpArgs false
open Go.RowKit
abbrev sv (l : List UInt8) : Value := .string ⟨l.toArray⟩
theorem strT : Tryd.prog.underlying 9 = some .string := by kernel_rfl
theorem sSize (l : List UInt8) : (⟨l.toArray⟩ : ByteArray).size = l.length := by rw [Lib.size_eq]
theorem sIdx (l : List UInt8) (i : Nat) (n : Int) (hn : n = (i : Int)) (c : UInt8) (h : l[i]? = some c) (wx : World) : (Instr.index 9 (sv l) (.int .i64 n)).run Tryd.prog wx = .ok (.int .u8 (c.toNat : Int)) wx := by
  subst hn
  obtain ⟨hi, hc⟩ := List.getElem?_eq_some_iff.1 h
  rw [run_index_string (P := Tryd.prog) (w := wx) 9 _ .i64 (i : Int) strT, dif_pos ⟨by omega, by rw [sSize]; omega⟩]
  subst hc
  rfl
theorem sTake (l : List UInt8) (i : Nat) (n : Int) (hn : n = (i : Int)) (h : i ≤ l.length) (wx : World) : (Instr.slice 9 (sv l) none (some (.int .i64 n)) none).run Tryd.prog wx = .ok (sv (l.take i)) wx := by
  subst hn
  have e : (⟨l.toArray⟩ : ByteArray).extract 0 i = ⟨(l.take i).toArray⟩ := by
    rw [ByteArray.extract_mk]
    simp
  have := run_slice_string_h (P := Tryd.prog) (w := wx) (t := 9) (s := ⟨l.toArray⟩) (ht := strT) .i64 (i : Int) (by omega) (by rw [sSize]; omega)
  rw [this, Int.toNat_natCast, e]
theorem sDrop (l : List UInt8) (i : Nat) (n : Int) (hn : n = (i : Int)) (h : i ≤ l.length) (wx : World) : (Instr.slice 9 (sv l) (some (.int .i64 n)) none none).run Tryd.prog wx = .ok (sv (l.drop i)) wx := by
  subst hn
  have e : (⟨l.toArray⟩ : ByteArray).extract i (⟨l.toArray⟩ : ByteArray).size = ⟨(l.drop i).toArray⟩ := by
    rw [sSize, ByteArray.extract_mk]
    simp
    exact List.take_of_length_le (by simp)
  have := run_slice_string_l (P := Tryd.prog) (w := wx) (t := 9) (s := ⟨l.toArray⟩) (ht := strT) .i64 (i : Int) (by omega) (by rw [sSize]; omega)
  rw [this, Int.toNat_natCast, e]
set_option maxRecDepth 10000 in
theorem dMust (w : World) : Calls Tryd.prog 44 #[.bool true] w fun e w' => e = .returned (.tuple #[]) ∧ w' = w := by
  go_enter Tryd.func44, Tryd.ntmps44
  go_wp2
  exact bodyPost_end (results_none rfl _ _ _) rfl ⟨rfl, rfl⟩
theorem trimmed (p r : List UInt8) : Lib.hasPrefix (p ++ r) p = true ∧ Lib.trimPrefix (p ++ r) p = r := by
  have h : Lib.hasPrefix (p ++ r) p = true := by
    unfold Lib.hasPrefix
    rw [List.isPrefixOf_iff_prefix]
    exact List.prefix_append _ _
  refine ⟨h, ?_⟩
  unfold Lib.trimPrefix
  rw [if_pos h, List.drop_left]
set_option maxRecDepth 10000 in
set_option maxHeartbeats 1600000 in
theorem dWord {w0 w : World} {tl : List Thing} (g : Nat) (p r : List UInt8) (S : St w0 w (cellsT g 65 [sv (p ++ r)] :: tl)) :
    Calls Tryd.prog 42 #[.pointer (some ⟨g, 0, none⟩), sv p] w fun e w' => e = .returned (.tuple #[]) ∧ St w0 w' (cellsT g 65 [sv r] :: tl) := by
  have c0 := S.cell 0 rfl 0 rfl
  have f0 := S.frozen 0 rfl 0
  have S2 := S.setCell 0 rfl 0 (sv r)
  obtain ⟨e1, e2⟩ := trimmed p r
  have hc := sh_strings_CutPrefix ⟨(p ++ r).toArray⟩ ⟨p.toArray⟩ w
  rw [show (⟨(p ++ r).toArray⟩ : ByteArray).data.toList = p ++ r from rfl, show (⟨p.toArray⟩ : ByteArray).data.toList = p from rfl, e1, e2] at hc
  have HC := hid hc
  clear hc e1 e2
  generalize p ++ r = s at *
  go_enter Tryd.func42, Tryd.ntmps42
  go_wp2_with fail
  refine HC.out.mono ?_
  rintro e w1 ⟨rfl, rfl⟩
  go_wp2_with fail
  refine (dMust _).mono ?_
  rintro e w1 ⟨rfl, rfl⟩
  go_wp2
  exact bodyPost_end (results_none rfl _ _ _) rfl ⟨rfl, S2⟩
theorem St.bytesW {w0 w : World} {l : List Thing} (S : St w0 w l) (e : TypeId) (s : ByteArray) : St w0 (Lib.bytesWorld w e s) l :=
  S.grow ⟨rfl, rfl, rfl, by rw [Lib.bytesWorld_size]; omega, fun k hk => Lib.bytesWorld_at_old _ _ _ k hk⟩
set_option maxRecDepth 10000 in
set_option maxHeartbeats 3200000 in
theorem dNum {w0 w : World} {tl : List Thing} (g : Nat) (l : List UInt8) (m : Nat) (v : Int) (S : St w0 w (cellsT g 65 [sv l] :: tl)) (hm : 1 ≤ m) (hm7 : m ≤ 7) (hlt : m < l.length) (hbig : l.length ≤ 1000000)
    (hd : ∀ i, i < m → ∃ c : UInt8, l[i]? = some c ∧ 48 ≤ c.toNat ∧ c.toNat ≤ 57) (hnd : ∃ c : UInt8, l[m]? = some c ∧ ¬ (48 ≤ c.toNat ∧ c.toNat ≤ 57)) (h0 : m = 1 ∨ ∃ c : UInt8, l[0]? = some c ∧ c.toNat ≠ 48) (hv : Lib.atoi (l.take m) = some v) (hv1 : v ≤ 1000000) :
    Calls Tryd.prog 49 #[.pointer (some ⟨g, 0, none⟩)] w fun e w' => e = .returned (.int .i64 v) ∧ St w0 w' (cellsT g 65 [sv (l.drop m)] :: tl) := by
  have c0 := S.cell 0 rfl 0 rfl
  have hz : (⟨l.toArray⟩ : ByteArray).size = l.length := sSize l
  have HD := hid hd
  have HND := hid hnd
  have H0 := hid h0
  have HV := hid hv
  clear hd hnd h0 hv
  go_enter Tryd.func49, Tryd.ntmps49
  go_wp2_with fail
  go_loopw [3] (fun i wr => ∃ k : Nat, k ≤ m ∧ i = .int .i64 k ∧ wr = w) (fun i _ => m - (intOf i).toNat)
  case atStart => exact ⟨0, Nat.zero_le _, rfl, rfl⟩
  case round =>
    obtain ⟨k, hk, rfl, rfl⟩ := hrel
    have d1 : decide ((k : Int) < (l.length : Int)) = true := decide_eq_true (by omega)
    have d1n : decide (k < l.length) = true := decide_eq_true (by omega)
    have d2 : decide ((k : Int) ≤ 7) = true := decide_eq_true (by omega)
    have d2n : decide (k ≤ 7) = true := decide_eq_true (by omega)
    by_cases hkm : k < m
    · obtain ⟨ch, hch, q1, q2⟩ := HD.out k hkm
      have i1 := fun wx => sIdx l k (k : Int) rfl ch hch wx
      have d3 : decide ((48 : Int) ≤ (ch.toNat : Int)) = true := decide_eq_true (by omega)
      have d3n : decide (48 ≤ ch.toNat) = true := decide_eq_true q1
      have d4 : decide ((ch.toNat : Int) ≤ 57) = true := decide_eq_true (by omega)
      have d4n : decide (ch.toNat ≤ 57) = true := decide_eq_true q2
      have hwk : IntKind.i64.wrap ((k : Int) + 1) = (k : Int) + 1 := by rw [IntKind.wrap_i64]; omega
      clear hch
      go_wp2
      go_roundw
      case rel => exact ⟨k + 1, by omega, by go_num, by first | rfl | trivial⟩
      case measure => simp [intOf]; omega
    · obtain ⟨ch, hch, hno⟩ := HND.out
      have hkm2 : k = m := by omega
      have HK := hid hkm2
      have i1 := fun wx => sIdx l k (k : Int) rfl ch (by rw [hkm2]; exact hch) wx
      clear hkm2 hch hkm
      obtain ⟨pb, hpb⟩ : ∃ pb, decide ((48 : Int) ≤ (ch.toNat : Int)) = pb := ⟨_, rfl⟩
      have hpbn : decide (48 ≤ ch.toNat) = pb := by rw [← hpb]; exact decide_eq_decide.2 (by omega)
      have i3 := fun wx => sTake l k (k : Int) rfl (by omega) wx
      have i4 := fun wx => sDrop l k (k : Int) rfl (by omega) wx
      have e1 : decide ((0 : Int) < (k : Int)) = true := decide_eq_true (by rw [HK.out]; omega)
      have e1n : decide (0 < k) = true := decide_eq_true (by rw [HK.out]; omega)
      have f0 := S.frozen 0 rfl 0
      have hvd : decide (v ≤ 1000000) = true := decide_eq_true hv1
      have HR : Hid (∀ wx, Calls Tryd.prog 56 #[sv (l.take k)] wx fun e w' => e = .returned (.tuple #[.int .i64 v, .nilIface]) ∧ ∃ t, w' = Lib.bytesWorld wx 5 t) := fun wx => sh_strconv_Atoi ⟨(l.take k).toArray⟩ v (by rw [sSize, List.length_take]; omega) (by rw [HK.out]; exact HV.out) wx
      cases pb
      case false =>
        clear hno
        by_cases hk1 : k = 1
        case pos =>
          have e2 : ((k : Int) == 1) = true := by simp [hk1]
          have e2n : (k == 1) = true := by simp [hk1]
          clear hk1
          go_wp2_with fail
          refine (dMust _).mono ?_
          rintro e w1 ⟨rfl, rfl⟩
          go_wp2_with fail
          refine (HR.out _).mono ?_
          rintro e w1 ⟨rfl, t, rfl⟩
          have S2 := S.bytesW 5 t
          have c2 := S2.cell 0 rfl 0 rfl
          have f2 := S2.frozen 0 rfl 0
          have S3 := S2.setCell 0 rfl 0 (sv (l.drop k))
          clear c0 f0 S2
          generalize Lib.bytesWorld _ _ _ = w2 at *
          go_wp2_with fail
          refine (dMust _).mono ?_
          rintro e w1 ⟨rfl, rfl⟩
          go_wp2
          go_ret
          exact ⟨rfl, by rw [← HK.out]; exact S3⟩
        case neg =>
          have e2 : ((k : Int) == 1) = false := by simp; omega
          have e2n : (k == 1) = false := by simp [hk1]
          obtain ⟨c9, hc9, hc8⟩ : ∃ c : UInt8, l[0]? = some c ∧ c.toNat ≠ 48 := by
            rcases H0.out with h | h
            · exact absurd (HK.out.trans h) hk1
            · exact h
          have i9 := fun wx => sIdx l 0 0 rfl c9 hc9 wx
          have e3 : ((c9.toNat : Int) != 48) = true := by simp; omega
          have e3n : (c9.toNat != 48) = true := by simp [hc8]
          clear hk1 hc9 hc8
          go_wp2_with fail
          refine (dMust _).mono ?_
          rintro e w1 ⟨rfl, rfl⟩
          go_wp2_with fail
          refine (HR.out _).mono ?_
          rintro e w1 ⟨rfl, t, rfl⟩
          have S2 := S.bytesW 5 t
          have c2 := S2.cell 0 rfl 0 rfl
          have f2 := S2.frozen 0 rfl 0
          have S3 := S2.setCell 0 rfl 0 (sv (l.drop k))
          clear c0 f0 S2
          generalize Lib.bytesWorld _ _ _ = w2 at *
          go_wp2_with fail
          refine (dMust _).mono ?_
          rintro e w1 ⟨rfl, rfl⟩
          go_wp2
          go_ret
          exact ⟨rfl, by rw [← HK.out]; exact S3⟩
      case true =>
        have d4 : decide ((ch.toNat : Int) ≤ 57) = false := decide_eq_false (by have := of_decide_eq_true hpb; omega)
        have d4n : decide (ch.toNat ≤ 57) = false := decide_eq_false (by have := of_decide_eq_true hpb; omega)
        clear hno
        by_cases hk1 : k = 1
        case pos =>
          have e2 : ((k : Int) == 1) = true := by simp [hk1]
          have e2n : (k == 1) = true := by simp [hk1]
          clear hk1
          go_wp2_with fail
          refine (dMust _).mono ?_
          rintro e w1 ⟨rfl, rfl⟩
          go_wp2_with fail
          refine (HR.out _).mono ?_
          rintro e w1 ⟨rfl, t, rfl⟩
          have S2 := S.bytesW 5 t
          have c2 := S2.cell 0 rfl 0 rfl
          have f2 := S2.frozen 0 rfl 0
          have S3 := S2.setCell 0 rfl 0 (sv (l.drop k))
          clear c0 f0 S2
          generalize Lib.bytesWorld _ _ _ = w2 at *
          go_wp2_with fail
          refine (dMust _).mono ?_
          rintro e w1 ⟨rfl, rfl⟩
          go_wp2
          go_ret
          exact ⟨rfl, by rw [← HK.out]; exact S3⟩
        case neg =>
          have e2 : ((k : Int) == 1) = false := by simp; omega
          have e2n : (k == 1) = false := by simp [hk1]
          obtain ⟨c9, hc9, hc8⟩ : ∃ c : UInt8, l[0]? = some c ∧ c.toNat ≠ 48 := by
            rcases H0.out with h | h
            · exact absurd (HK.out.trans h) hk1
            · exact h
          have i9 := fun wx => sIdx l 0 0 rfl c9 hc9 wx
          have e3 : ((c9.toNat : Int) != 48) = true := by simp; omega
          have e3n : (c9.toNat != 48) = true := by simp [hc8]
          clear hk1 hc9 hc8
          go_wp2_with fail
          refine (dMust _).mono ?_
          rintro e w1 ⟨rfl, rfl⟩
          go_wp2_with fail
          refine (HR.out _).mono ?_
          rintro e w1 ⟨rfl, t, rfl⟩
          have S2 := S.bytesW 5 t
          have c2 := S2.cell 0 rfl 0 rfl
          have f2 := S2.frozen 0 rfl 0
          have S3 := S2.setCell 0 rfl 0 (sv (l.drop k))
          clear c0 f0 S2
          generalize Lib.bytesWorld _ _ _ = w2 at *
          go_wp2_with fail
          refine (dMust _).mono ?_
          rintro e w1 ⟨rfl, rfl⟩
          go_wp2
          go_ret
          exact ⟨rfl, by rw [← HK.out]; exact S3⟩
end Go.Proofs.YtjfbmgndekfglaaDoor

namespace Go.Proofs.YtjfbmgndekfglaaDoor
set_option linter.unusedVariables false
set_option linter.unusedSimpArgs false
open Go.RowKit
def okNum (r : List UInt8) (m : Nat) (v : Int) : Bool := decide (1 ≤ m) && (decide (m ≤ 7) && (decide (m < r.length) && (decide (r.length ≤ 1000000) && ((List.range m).all (fun i => (r[i]?).any (fun c => decide (48 ≤ c.toNat) && decide (c.toNat ≤ 57))) && ((r[m]?).any (fun c => !(decide (48 ≤ c.toNat) && decide (c.toNat ≤ 57))) && ((decide (m = 1) || (r[0]?).any (fun c => decide (c.toNat ≠ 48))) && (decide (Lib.atoi (r.take m) = some v) && decide (v ≤ 1000000))))))))
theorem any_some {o : Option UInt8} {p : UInt8 → Bool} (h : o.any p = true) : ∃ c, o = some c ∧ p c = true := by
  cases o with
  | none => cases h
  | some c => exact ⟨c, rfl, h⟩
set_option maxRecDepth 10000 in
set_option maxHeartbeats 1600000 in
theorem dBehind {w0 w : World} {tl : List Thing} (g : Nat) (p l r z : List UInt8) (m : Nat) (v : Int) (S : St w0 w (cellsT g 65 [sv l] :: tl)) (hl : l = p ++ r) (hok : okNum r m v = true) (hz : r.drop m = z) :
    Calls Tryd.prog 41 #[.pointer (some ⟨g, 0, none⟩), sv p] w fun e w' => e = .returned (.int .i64 v) ∧ St w0 w' (cellsT g 65 [sv z] :: tl) := by
  subst hl hz
  have HO := hid hok
  clear hok
  go_enter Tryd.func41, Tryd.ntmps41
  go_wp2_with fail
  refine (dWord g p r S).mono ?_
  rintro e w1 ⟨rfl, S1⟩
  have hok := HO.out
  unfold okNum at hok
  simp only [Bool.and_eq_true, decide_eq_true_eq, List.all_eq_true, List.mem_range, Bool.or_eq_true] at hok
  obtain ⟨h1, h2, h3, h4, h5, h6, h7, h8, h9⟩ := hok
  have hd : ∀ i, i < m → ∃ c : UInt8, r[i]? = some c ∧ 48 ≤ c.toNat ∧ c.toNat ≤ 57 := by
    intro i hi
    obtain ⟨c, hc, hp⟩ := any_some (h5 i hi)
    exact ⟨c, hc, by simpa using hp⟩
  have hnd : ∃ c : UInt8, r[m]? = some c ∧ ¬ (48 ≤ c.toNat ∧ c.toNat ≤ 57) := by
    obtain ⟨c, hc, hp⟩ := any_some h6
    refine ⟨c, hc, ?_⟩
    rw [Bool.not_eq_true', Bool.and_eq_false_iff] at hp
    rcases hp with hp | hp
    · have := of_decide_eq_false hp; omega
    · have := of_decide_eq_false hp; omega
  have hz : m = 1 ∨ ∃ c : UInt8, r[0]? = some c ∧ c.toNat ≠ 48 := by
    rcases h7 with h | h
    · exact .inl h
    · obtain ⟨c, hc, hp⟩ := any_some h
      exact .inr ⟨c, hc, by simpa using hp⟩
  have HN := hid (dNum g r m v S1 h1 h2 h3 h4 hd hnd hz h8 h9)
  clear h1 h2 h3 h4 h5 h6 h7 h8 h9 hd hnd hz S S1
  go_wp2_with fail
  refine HN.out.mono ?_
  rintro e w2 ⟨rfl, S2⟩
  go_wp2
  go_ret
  exact ⟨rfl, S2⟩
def tx (k : Nat) : List UInt8 := ([110, 111, 100, 101, 115, 32, 50, 32, 117, 112, 44, 32, 48, 32, 99, 111, 114, 100, 111, 110, 101, 100, 44, 32, 48, 32, 109, 111, 118, 105, 110, 103, 44, 32, 48, 32, 98, 101, 104, 105, 110, 100, 44, 32, 50, 32, 102, 114, 101, 101, 10, 113, 117, 101, 117, 101, 32, 48, 58, 32, 48, 32, 48, 32, 48, 32, 48, 32, 48, 10, 101, 110, 100, 32, 48, 10, 115, 104, 97, 114, 101, 32, 49, 48, 48, 10] : List UInt8).drop k
set_option maxRecDepth 10000 in
set_option maxHeartbeats 6400000 in
theorem dDial {w0 w : World} (g : Nat) (S : St w0 w [cellsT g 65 [sv (tx 0)]]) :
    Calls Tryd.prog 31 #[.pointer (some ⟨g, 0, none⟩)] w fun e w' => ∃ a q, e = .returned (.agg (DI.cs ⟨2, 0, 0, 0, 2, 0, 100⟩ (.slice a 1 q)).toArray) ∧ St w0 w' [ownT eQ (.slice a 1 q) [⟨0, 0, 0, 0, 0⟩]] := by
  have S0 : St w0 _ [cellsT g 65 [sv (tx 0)], cellsT w.heap.size 34 (#[.int .i64 0, .int .i64 0, .int .i64 0, .int .i64 0, .int .i64 0, .slice none 0 0, .int .i64 0, .int .i64 0] : Array Value).toList] := S.newAt 34 #[.int .i64 0, .int .i64 0, .int .i64 0, .int .i64 0, .int .i64 0, .slice none 0 0, .int .i64 0, .int .i64 0] w.heap.size rfl
  go_enter Tryd.func31, Tryd.ntmps31
  go_wp2_with fail
  generalize w.heap.size = g2 at *
  generalize w.alloc _ = w1 at *
  clear S
  refine (dBehind g [110, 111, 100, 101, 115, 32] (tx 0) (tx 6) (tx 7) 1 2 S0 rfl (by decide) rfl).mono ?_
  rintro e wa0 ⟨rfl, S1⟩
  clear S0
  go_wp2_with fail
  refine (dBehind g [32, 117, 112, 44, 32] (tx 7) (tx 12) (tx 13) 1 0 S1 rfl (by decide) rfl).mono ?_
  rintro e wa1 ⟨rfl, S2⟩
  clear S1
  go_wp2_with fail
  refine (dBehind g [32, 99, 111, 114, 100, 111, 110, 101, 100, 44, 32] (tx 13) (tx 24) (tx 25) 1 0 S2 rfl (by decide) rfl).mono ?_
  rintro e wa2 ⟨rfl, S3⟩
  clear S2
  go_wp2_with fail
  refine (dBehind g [32, 109, 111, 118, 105, 110, 103, 44, 32] (tx 25) (tx 34) (tx 35) 1 0 S3 rfl (by decide) rfl).mono ?_
  rintro e wa3 ⟨rfl, S4⟩
  clear S3
  go_wp2_with fail
  refine (dBehind g [32, 98, 101, 104, 105, 110, 100, 44, 32] (tx 35) (tx 44) (tx 45) 1 2 S4 rfl (by decide) rfl).mono ?_
  rintro e wa4 ⟨rfl, S5⟩
  clear S4
  have S6 : St w0 _ [cellsT g 65 [sv (tx 45)], cellsT g2 34 (#[.int .i64 0, .int .i64 0, .int .i64 0, .int .i64 0, .int .i64 0, .slice none 0 0, .int .i64 0, .int .i64 0] : Array Value).toList, cellsT wa4.heap.size 34 (#[.int .i64 2, .int .i64 0, .int .i64 0, .int .i64 0, .int .i64 2, .slice none 0 0, .int .i64 0, .int .i64 0] : Array Value).toList] := S5.newAt 34 #[.int .i64 2, .int .i64 0, .int .i64 0, .int .i64 0, .int .i64 2, .slice none 0 0, .int .i64 0, .int .i64 0] wa4.heap.size rfl
  clear S5
  go_wp2_with fail
  generalize wa4.heap.size = g3 at *
  generalize wa4.alloc _ = wa5 at *
  refine (dWord g [32, 102, 114, 101, 101, 10] (tx 51) S6).mono ?_
  rintro e wa6 ⟨rfl, S7⟩
  clear S6
  have S7b := S7.nilG eQ
  clear S7
  go_wp2_with fail
  go_loopg [] 1 (fun k wr => (k = 1 ∧ St w0 wr [cellsT g 65 [sv (tx 51)], cellsT g2 34 (#[.int .i64 0, .int .i64 0, .int .i64 0, .int .i64 0, .int .i64 0, .slice none 0 0, .int .i64 0, .int .i64 0] : Array Value).toList, cellsT g3 34 (#[.int .i64 2, .int .i64 0, .int .i64 0, .int .i64 0, .int .i64 2, .slice none 0 0, .int .i64 0, .int .i64 0] : Array Value).toList, ownT eQ (.slice none 0 0) []]) ∨ (k = 0 ∧ ∃ a q, St w0 wr [cellsT g 65 [sv (tx 70)], cellsT g2 34 (#[.int .i64 0, .int .i64 0, .int .i64 0, .int .i64 0, .int .i64 0, .slice none 0 0, .int .i64 0, .int .i64 0] : Array Value).toList, cellsT g3 34 [.int .i64 2, .int .i64 0, .int .i64 0, .int .i64 0, .int .i64 2, .slice a 1 q, .int .i64 0, .int .i64 0], ownT eQ (.slice a 1 q) [⟨0, 0, 0, 0, 0⟩]]))
  case atStart => exact .inl ⟨rfl, S7b⟩
  case round =>
    rcases hrel with ⟨rfl, SA⟩ | ⟨rfl, a, q, SB⟩
    case inl =>
      clear S7b
      have c0 := SA.cell 0 rfl 0 rfl
      have HP := hid (fun wx => sh_strings_HasPrefix ⟨(tx 51).toArray⟩ ⟨([113, 117, 101, 117, 101, 32] : List UInt8).toArray⟩ wx)
      go_wp2_with fail
      refine (HP.out _).mono ?_
      rintro e wb1 ⟨rfl, rfl⟩
      clear c0
      generalize hb : Lib.hasPrefix _ _ = b
      have hb2 : b = true := by rw [← hb]; rfl
      subst hb2
      clear hb HP
      go_wp2_with fail
      refine wp_region_held_drew (S := (fun w' => w'.cell? ⟨g3, 5, none⟩ = some (.slice none 0 0))) (by kernel_rfl) (by exact SA.drew.cell 2 rfl 5 rfl) (fun hHeld => ?_)
      change wpAnyH _ _ _ _ _ 13 (Array.replicate 13 false) _ _
      refine wpAnyH_take (i := 0) (v := ?v1) (ops_at rfl) (by kernel_rfl) (by kernel_rfl) (by kernel_rfl) (fun _ _ _ h => h) (Or.inl ⟨by rfl, ?hy1⟩) (by assumption) ?rest1
      case hy1 => intro w' hSw; (try dsimp only at hSw); go_simp; try with_reducible rfl
      try simp only [Act.put, List.setIfInBounds_toArray, List.set_cons_zero, List.set_cons_succ]
      refine wpAnyH_take (i := 2) (v := ?v2) (ops_at rfl) (by kernel_rfl) (by kernel_rfl) (by kernel_rfl) (fun _ _ _ h => h) (Or.inl ⟨by rfl, ?hy2⟩) (by assumption) ?rest2
      case hy2 => intro w' hSw; (try dsimp only at hSw); go_simp; try with_reducible rfl
      try simp only [Act.put, List.setIfInBounds_toArray, List.set_cons_zero, List.set_cons_succ]
      refine wpAnyH_take (i := 3) (v := ?v3) (ops_at rfl) (by kernel_rfl) (by kernel_rfl) (by kernel_rfl) (fun _ _ _ h => h) (Or.inl ⟨by rfl, ?hy3⟩) (by assumption) ?rest3
      case hy3 => intro w' hSw; (try dsimp only at hSw); go_simp; try with_reducible rfl
      try simp only [Act.put, List.setIfInBounds_toArray, List.set_cons_zero, List.set_cons_succ]
      refine wpAnyH_take (i := 4) (v := ?v4) (ops_at rfl) (by kernel_rfl) (by kernel_rfl) (by kernel_rfl) (fun _ _ _ h => h) (Or.inl ⟨by rfl, ?hy4⟩) (by assumption) ?rest4
      case hy4 => intro w' hSw; (try dsimp only at hSw); go_simp; try with_reducible rfl
      try simp only [Act.put, List.setIfInBounds_toArray, List.set_cons_zero, List.set_cons_succ]
      refine wpAnyH_ready (rs := [1]) (by kernel_rfl) (by simp) ?_
      refine AllReadyH.cons (ops_at rfl) (fun K hK => ?_) AllReadyH.nil
      go_simp
      refine (dBehind g [113, 117, 101, 117, 101, 32] (tx 51) (tx 57) (tx 58) 1 0 SA.drew rfl (by decide) rfl).mono ?_
      rintro e wb2 ⟨rfl, SA2⟩
      refine hK.out _ _ (by exact SA2.cell 2 rfl 5 rfl) (fun hHeld => ?_)
      clear hK K
      try simp only [Act.put, List.setIfInBounds_toArray, List.set_cons_zero, List.set_cons_succ]
      refine wpAnyH_take (i := 5) (v := ?v6) (ops_at rfl) (by kernel_rfl) (by kernel_rfl) (by kernel_rfl) (fun _ _ _ h => h) (Or.inl ⟨by rfl, ?hy6⟩) (by assumption) ?rest6
      case hy6 => intro w' hSw; (try dsimp only at hSw); go_simp; try with_reducible rfl
      try simp only [Act.put, List.setIfInBounds_toArray, List.set_cons_zero, List.set_cons_succ]
      refine wpAnyH_take (i := 6) (v := ?v7) (ops_at rfl) (by kernel_rfl) (by kernel_rfl) (by kernel_rfl) (fun _ _ _ h => h) (Or.inl ⟨by rfl, ?hy7⟩) (by assumption) ?rest7
      case hy7 => intro w' hSw; (try dsimp only at hSw); go_simp; try with_reducible rfl
      try simp only [Act.put, List.setIfInBounds_toArray, List.set_cons_zero, List.set_cons_succ]
      refine wpAnyH_take (i := 7) (v := ?v8) (ops_at rfl) (by kernel_rfl) (by kernel_rfl) (by kernel_rfl) (fun _ _ _ h => h) (Or.inl ⟨by rfl, ?hy8⟩) (by assumption) ?rest8
      case hy8 => intro w' hSw; (try dsimp only at hSw); go_simp; try with_reducible rfl
      try simp only [Act.put, List.setIfInBounds_toArray, List.set_cons_zero, List.set_cons_succ]
      refine wpAnyH_take (i := 8) (v := ?v9) (ops_at rfl) (by kernel_rfl) (by kernel_rfl) (by kernel_rfl) (fun _ _ _ h => h) (Or.inl ⟨by rfl, ?hy9⟩) (by assumption) ?rest9
      case hy9 => intro w' hSw; (try dsimp only at hSw); go_simp; try with_reducible rfl
      try simp only [Act.put, List.setIfInBounds_toArray, List.set_cons_zero, List.set_cons_succ]
      refine wpAnyH_take (i := 9) (v := ?v10) (ops_at rfl) (by kernel_rfl) (by kernel_rfl) (by kernel_rfl) (fun _ _ _ h => h) (Or.inl ⟨by rfl, ?hy10⟩) (by assumption) ?rest10
      case hy10 => intro w' hSw; (try dsimp only at hSw); go_simp; try with_reducible rfl
      try simp only [Act.put, List.setIfInBounds_toArray, List.set_cons_zero, List.set_cons_succ]
      refine wpAnyH_take (i := 10) (v := ?v11) (ops_at rfl) (by kernel_rfl) (by kernel_rfl) (by kernel_rfl) (fun _ _ _ h => h) (Or.inl ⟨by rfl, ?hy11⟩) (by assumption) ?rest11
      case hy11 => intro w' hSw; (try dsimp only at hSw); go_simp; try with_reducible rfl
      try simp only [Act.put, List.setIfInBounds_toArray, List.set_cons_zero, List.set_cons_succ]
      refine wpAnyH_take (i := 11) (v := ?v12) (ops_at rfl) (by kernel_rfl) (by kernel_rfl) (by kernel_rfl) (fun _ _ _ h => h) (Or.inl ⟨by rfl, ?hy12⟩) (by assumption) ?rest12
      case hy12 => intro w' hSw; (try dsimp only at hSw); go_simp; try with_reducible rfl
      try simp only [Act.put, List.setIfInBounds_toArray, List.set_cons_zero, List.set_cons_succ]
      refine wpAnyH_ready (rs := [12]) (by kernel_rfl) (by simp) ?_
      refine AllReadyH.cons (ops_at rfl) (fun K hK => ?_) AllReadyH.nil
      go_simp
      refine (dMust _).mono ?_
      rintro e wb1 ⟨rfl, rfl⟩
      refine hK.out _ _ (by exact SA2.cell 2 rfl 5 rfl) (fun hHeld => ?_)
      clear hK K
      try simp only [Act.put, List.setIfInBounds_toArray, List.set_cons_zero, List.set_cons_succ]
      refine wpAnyH_done (by kernel_rfl) ?_ _
      clear SA
      go_wp2_with fail
      refine (dWord g [58] (tx 59) SA2).mono ?_
      rintro e wb3 ⟨rfl, SA3⟩
      clear SA2
      have SA4 : St w0 _ [cellsT g 65 [sv (tx 59)], cellsT g2 34 (#[.int .i64 0, .int .i64 0, .int .i64 0, .int .i64 0, .int .i64 0, .slice none 0 0, .int .i64 0, .int .i64 0] : Array Value).toList, cellsT g3 34 (#[.int .i64 2, .int .i64 0, .int .i64 0, .int .i64 0, .int .i64 2, .slice none 0 0, .int .i64 0, .int .i64 0] : Array Value).toList, ownT eQ (.slice none 0 0) [], cellsT wb3.heap.size 37 (#[.int .i64 0, .int .i64 0, .int .i64 0, .int .i64 0, .int .i64 0] : Array Value).toList] := SA3.newAt 37 #[.int .i64 0, .int .i64 0, .int .i64 0, .int .i64 0, .int .i64 0] wb3.heap.size rfl
      clear SA3
      go_wp2_with fail
      generalize wb3.heap.size = g5 at *
      generalize wb3.alloc _ = wb4 at *
      go_loopw [39] (fun i wr => ∃ k : Nat, k ≤ 5 ∧ i = .int .i64 k ∧ St w0 wr [cellsT g 65 [sv (tx (59 + 2 * k))], cellsT g2 34 (#[.int .i64 0, .int .i64 0, .int .i64 0, .int .i64 0, .int .i64 0, .slice none 0 0, .int .i64 0, .int .i64 0] : Array Value).toList, cellsT g3 34 (#[.int .i64 2, .int .i64 0, .int .i64 0, .int .i64 0, .int .i64 2, .slice none 0 0, .int .i64 0, .int .i64 0] : Array Value).toList, ownT eQ (.slice none 0 0) [], cellsT g5 37 (#[.int .i64 0, .int .i64 0, .int .i64 0, .int .i64 0, .int .i64 0] : Array Value).toList]) (fun i _ => 5 - (intOf i).toNat)
      case atStart => exact ⟨0, by omega, rfl, SA4⟩
      case round =>
        obtain ⟨k, hk, rfl, SK⟩ := hrel
        clear SA4
        by_cases hk5 : k < 5
        case pos =>
          have d1 : decide ((k : Int) < 5) = true := decide_eq_true (by omega)
          have d1n : decide (k < 5) = true := decide_eq_true hk5
          have i7 := fun wx => idxP g5 0 k (k : Int) rfl hk5 wx
          simp only [Nat.zero_add] at i7
          have hwk : IntKind.i64.wrap ((k : Int) + 1) = (k : Int) + 1 := by rw [IntKind.wrap_i64]; omega
          have HT := hid ((by decide : ∀ j, j < 5 → tx (59 + 2 * j) = [32] ++ tx (59 + 2 * j + 1) ∧ okNum (tx (59 + 2 * j + 1)) 1 0 = true ∧ (tx (59 + 2 * j + 1)).drop 1 = tx (59 + 2 * (j + 1))) k hk5)
          have HZ : Hid ((#[.int .i64 0, .int .i64 0, .int .i64 0, .int .i64 0, .int .i64 0] : Array Value).toList.set k (.int .i64 0) = (#[.int .i64 0, .int .i64 0, .int .i64 0, .int .i64 0, .int .i64 0] : Array Value).toList) := (show ∀ j, j < 5 → ((#[.int .i64 0, .int .i64 0, .int .i64 0, .int .i64 0, .int .i64 0] : Array Value).toList.set j (.int .i64 0) = (#[.int .i64 0, .int .i64 0, .int .i64 0, .int .i64 0, .int .i64 0] : Array Value).toList) from fun j hj => by rcases (show j = 0 ∨ j = 1 ∨ j = 2 ∨ j = 3 ∨ j = 4 by omega) with rfl | rfl | rfl | rfl | rfl <;> rfl) k hk5
          have HV : Hid ((#[.int .i64 0, .int .i64 0, .int .i64 0, .int .i64 0, .int .i64 0] : Array Value).toList[k]? = some (.int .i64 0)) := (show ∀ j, j < 5 → ((#[.int .i64 0, .int .i64 0, .int .i64 0, .int .i64 0, .int .i64 0] : Array Value).toList[j]? = some (.int .i64 0)) from fun j hj => by rcases (show j = 0 ∨ j = 1 ∨ j = 2 ∨ j = 3 ∨ j = 4 by omega) with rfl | rfl | rfl | rfl | rfl <;> rfl) k hk5
          go_wp2_with fail
          refine (dBehind g [32] (tx (59 + 2 * k)) (tx (59 + 2 * k + 1)) (tx (59 + 2 * (k + 1))) 1 0 SK HT.out.1 HT.out.2.1 HT.out.2.2).mono ?_
          rintro e wb5 ⟨rfl, SK2⟩
          have c9 := SK2.cell 4 rfl k HV.out
          have f9 := SK2.frozen 4 rfl k
          have SK3 := SK2.setCell 4 rfl k (.int .i64 0)
          rw [HZ.out] at SK3
          clear SK HT HZ HV
          go_wp2
          go_roundw
          case rel => exact ⟨k + 1, by omega, by go_num, SK3⟩
          case measure => simp [intOf]; omega
        have d1 : decide ((k : Int) < 5) = false := decide_eq_false (by omega)
        have d1n : decide (k < 5) = false := decide_eq_false hk5
        obtain rfl : k = 5 := by omega
        have Sr : St w0 wr [cellsT g 65 [sv (tx 69)], cellsT g2 34 (#[.int .i64 0, .int .i64 0, .int .i64 0, .int .i64 0, .int .i64 0, .slice none 0 0, .int .i64 0, .int .i64 0] : Array Value).toList, cellsT g3 34 (#[.int .i64 2, .int .i64 0, .int .i64 0, .int .i64 0, .int .i64 2, .slice none 0 0, .int .i64 0, .int .i64 0] : Array Value).toList, ownT eQ (.slice none 0 0) [], cellsT g5 37 (Q5.cs ⟨0, 0, 0, 0, 0⟩)] := SK
        clear SK d1 d1n hk hk5
        obtain ⟨x0, x1, x2, x3, x4⟩ := And.intro (Sr.cell 4 rfl 0 rfl) (And.intro (Sr.cell 4 rfl 1 rfl) (And.intro (Sr.cell 4 rfl 2 rfl) (And.intro (Sr.cell 4 rfl 3 rfl) (Sr.cell 4 rfl 4 rfl))))
        have c5 := Sr.cell 2 rfl 5 rfl
        go_wp2_with (at_builtin; refine wpList_app (by rfl) (.tmp 48) (.tmp 50) eQ.T eQ.T eQ.T rfl rfl _ _ rfl rfl (Sr.appG1 eQok wr.heap.size rfl 3 rfl ⟨0, 0, 0, 0, 0⟩ _ (by rfl) 1 rfl (by decide) (by decide)) ?_; rintro v7 w7 ⟨⟨a7, c7, rfl⟩, S7⟩; have f5 := S7.frozen 2 rfl 5; have c5b := S7.cell 2 rfl 5 rfl; have S8 := S7.setCell 2 rfl 5 (.slice a7 1 c7))
        have S9 : St w0 _ [cellsT g 65 [sv (tx 69)], cellsT g2 34 (#[.int .i64 0, .int .i64 0, .int .i64 0, .int .i64 0, .int .i64 0, .slice none 0 0, .int .i64 0, .int .i64 0] : Array Value).toList, cellsT g3 34 [.int .i64 2, .int .i64 0, .int .i64 0, .int .i64 0, .int .i64 2, .slice a7 1 c7, .int .i64 0, .int .i64 0], ownT eQ (.slice a7 1 c7) [⟨0, 0, 0, 0, 0⟩]] := S8.take 4
        clear x0 x1 x2 x3 x4 c5 f5 c5b S7 S8 Sr
        refine (dWord g [10] (tx 70) S9).mono ?_
        rintro e w8 ⟨rfl, S10⟩
        go_wp2
        go_roundg 0
        case measure => decide
        case rel => exact .inr ⟨rfl, a7, c7, S10⟩
    case inr =>
      clear S7b
      have c0 := SB.cell 0 rfl 0 rfl
      have HP := hid (fun wx => sh_strings_HasPrefix ⟨(tx 70).toArray⟩ ⟨([113, 117, 101, 117, 101, 32] : List UInt8).toArray⟩ wx)
      go_wp2_with fail
      refine (HP.out _).mono ?_
      rintro e wb1 ⟨rfl, rfl⟩
      clear c0
      generalize hb : Lib.hasPrefix _ _ = b
      have hb2 : b = false := by rw [← hb]; rfl
      subst hb2
      clear hb HP
      go_wp2_with fail
      refine (dBehind g [101, 110, 100, 32] (tx 70) (tx 74) (tx 75) 1 0 SB rfl (by decide) rfl).mono ?_
      rintro e wb2 ⟨rfl, SB2⟩
      have c6 := SB2.cell 2 rfl 6 rfl
      have f6 := SB2.frozen 2 rfl 6
      have SB3 := SB2.setCell 2 rfl 6 (.int .i64 0)
      clear SB
      go_wp2_with fail
      clear c6 f6 SB2
      generalize World.setCell _ _ _ = wb3 at *
      refine (dBehind g [10, 115, 104, 97, 114, 101, 32] (tx 75) (tx 82) (tx 85) 3 100 SB3 rfl (by decide) rfl).mono ?_
      rintro e wb4 ⟨rfl, SB4⟩
      have c7 := SB4.cell 2 rfl 7 rfl
      have f7 := SB4.frozen 2 rfl 7
      have SB5 := SB4.setCell 2 rfl 7 (.int .i64 100)
      clear SB3
      go_wp2_with fail
      clear c7 f7 SB4
      generalize World.setCell _ _ _ = wb5 at *
      refine (dWord g [10] [] SB5).mono ?_
      rintro e wb6 ⟨rfl, SB6⟩
      clear SB5
      have c0 := SB6.cell 0 rfl 0 rfl
      go_wp2_with fail
      refine (dMust _).mono ?_
      rintro e wb7 ⟨rfl, rfl⟩
      clear c0
      obtain ⟨y0, y1, y2, y3, y4, y5, y6, y7⟩ := And.intro (SB6.cell 2 rfl 0 rfl) (And.intro (SB6.cell 2 rfl 1 rfl) (And.intro (SB6.cell 2 rfl 2 rfl) (And.intro (SB6.cell 2 rfl 3 rfl) (And.intro (SB6.cell 2 rfl 4 rfl) (And.intro (SB6.cell 2 rfl 5 rfl) (And.intro (SB6.cell 2 rfl 6 rfl) (SB6.cell 2 rfl 7 rfl)))))))
      obtain ⟨z0, z1, z2, z3, z4, z5, z6, z7⟩ := And.intro (SB6.cell 1 rfl 0 rfl) (And.intro (SB6.cell 1 rfl 1 rfl) (And.intro (SB6.cell 1 rfl 2 rfl) (And.intro (SB6.cell 1 rfl 3 rfl) (And.intro (SB6.cell 1 rfl 4 rfl) (And.intro (SB6.cell 1 rfl 5 rfl) (And.intro (SB6.cell 1 rfl 6 rfl) (SB6.cell 1 rfl 7 rfl)))))))
      obtain ⟨f0, f1, f2, f3, f4, f5, f6, f7⟩ := And.intro (SB6.frozen 1 rfl 0) (And.intro (SB6.frozen 1 rfl 1) (And.intro (SB6.frozen 1 rfl 2) (And.intro (SB6.frozen 1 rfl 3) (And.intro (SB6.frozen 1 rfl 4) (And.intro (SB6.frozen 1 rfl 5) (And.intro (SB6.frozen 1 rfl 6) (SB6.frozen 1 rfl 7)))))))
      have SX := ((((((((SB6.setCell 1 rfl 0 (.int .i64 2)).setCell 1 rfl 1 (.int .i64 0)).setCell 1 rfl 2 (.int .i64 0)).setCell 1 rfl 3 (.int .i64 0)).setCell 1 rfl 4 (.int .i64 2)).setCell 1 rfl 5 (.slice a 1 q)).setCell 1 rfl 6 (.int .i64 0)).setCell 1 rfl 7 (.int .i64 100))
      go_wp2
      refine bodyPost_ret (res_dial rfl _ _ g2 _ rfl (by exact SX.heap 1 rfl) rfl) rfl ?_
      exact ⟨a, q, rfl, (SX.front 3 rfl).take 1⟩
end Go.Proofs.YtjfbmgndekfglaaDoor

namespace Go.Proofs.YtjfbmgndekfglaaDoor
set_option linter.unusedVariables false
set_option linter.unusedSimpArgs false
open Go.RowKit
theorem dCatch (a b : Addr) (w : World) :
    CallsD Tryd.prog 30 #[.pointer (some a), .pointer (some b)] .returning w fun e u' w' => e = .returned (.tuple #[]) ∧ u' = .returning ∧ w' = w := by
  refine callsD_of_wpS Tryd.func30 rfl fun c₀ cs hu => ?_
  apply wpS_seq
  apply wpS_region
  simp [wpOpsS, go_sem, recoverD, hu, Tryd.ntmps30, Exit.thenS]
  apply wpS_seq
  apply wpS_region
  simp [wpOpsS, go_sem, Exit.thenS]
  refine wpS_cond (t := false) (by simp [Act.eval, Array.replicate]) ?_
  simp only [Bool.false_eq_true, if_false]
  refine wpS_of_wp (wp_skip ?_)
  cases c₀
  simp_all [bodyPostS, results, Tryd.results30]
theorem res_dial_bool {fn : Func} {p u : Tmp} (h : fn.results = #[.cell p 34, .cell u 4]) (tmps : Array Value) (w : World) (g g' : Nat) (cs : Array Value) (b : Bool) (hp : tmps.getD p undef = .pointer (some ⟨g, 0, none⟩)) (hu : tmps.getD u undef = .pointer (some ⟨g', 0, none⟩)) (hg : w.heap[g]? = some (.cells cs 34 (0, 0))) (hs : cs.size = 8) (hb : w.cell? ⟨g', 0, none⟩ = some (.bool b)) :
    (results fn tmps).run Tryd.prog w = .ok (.tuple #[.agg cs, .bool b]) w := by
  have hi : (Tryd.prog.info? 34).map (·.size) = some 8 := by kernel_rfl
  have hp' : tmps[p]?.getD undef = .pointer (some ⟨g, 0, none⟩) := by simpa using hp
  have hu' : tmps[u]?.getD undef = .pointer (some ⟨g', 0, none⟩) := by simpa using hu
  have h1 := run_loadVar_row (P := Tryd.prog) w g 34 34 cs (0, 0) _ hg Tryd.underlying34 rfl (by rw [hi, hs])
  have h2 : (loadVar 4 ⟨g', 0, none⟩).run Tryd.prog w = .ok (.bool b) w := by simp [go_sem, hb, boolTy]
  simp [results, h, hp', hu', asAddr, h1, h2]
set_option maxRecDepth 10000 in
set_option maxHeartbeats 3200000 in
theorem dParse (w : World) :
    Calls Tryd.prog 14 #[sv (tx 0)] w fun e w' => ∃ a q, e = .returned (.tuple #[.agg (DI.cs ⟨2, 0, 0, 0, 2, 0, 100⟩ (.slice a 1 q)).toArray, .bool true]) ∧ AtG eQ w' a [⟨0, 0, 0, 0, 0⟩] ∧ Below w.heap.size w w' := by
  have hmf : ∀ (fn : Fn) (first cap : Array Value) (w : World), (Instr.makeFunc fn first cap).run Tryd.prog w = .ok (.func fn first cap) w := fun _ _ _ _ => rfl
  have S2 : St w _ [cellsT w.heap.size 34 (#[.int .i64 0, .int .i64 0, .int .i64 0, .int .i64 0, .int .i64 0, .slice none 0 0, .int .i64 0, .int .i64 0] : Array Value).toList, cellsT (w.heap.size + 1) 4 [.bool false]] := ((St.start w).newAt 34 #[.int .i64 0, .int .i64 0, .int .i64 0, .int .i64 0, .int .i64 0, .slice none 0 0, .int .i64 0, .int .i64 0] w.heap.size rfl).newAt 4 #[.bool false] (w.heap.size + 1) (alloc_size _ _)
  go_enter_defers Tryd.func14, Tryd.ntmps14
  go_wp2_with fail
  generalize hw1 : (w.alloc _).alloc _ = w1 at *
  have S3 : St w1 _ [cellsT w1.heap.size 65 [sv (tx 0)]] := (St.start w1).newAt 65 #[sv (tx 0)] w1.heap.size rfl
  have hz1 : w.heap.size + 1 + 1 = w1.heap.size := by rw [← hw1]; simp only [alloc_size]
  rw [hz1]
  clear hw1 hz1
  refine (dDial w1.heap.size S3).mono ?_
  rintro e w2 ⟨a, q, he, S4⟩
  have he2 : e = .returned (.agg #[.int .i64 2, .int .i64 0, .int .i64 0, .int .i64 0, .int .i64 2, .slice a 1 q, .int .i64 0, .int .i64 100]) := he
  subst he2
  obtain ⟨F, ho, -⟩ := S4.head 0 rfl
  have S5 := S2.own ho S4.fin
  clear ho S4
  generalize w.heap.size + 1 = g3 at *
  generalize w.heap.size = g2 at S5 ⊢
  obtain ⟨z0, z1, z2, z3, z4, z5, z6, z7⟩ := And.intro (S5.cell 0 rfl 0 rfl) (And.intro (S5.cell 0 rfl 1 rfl) (And.intro (S5.cell 0 rfl 2 rfl) (And.intro (S5.cell 0 rfl 3 rfl) (And.intro (S5.cell 0 rfl 4 rfl) (And.intro (S5.cell 0 rfl 5 rfl) (And.intro (S5.cell 0 rfl 6 rfl) (S5.cell 0 rfl 7 rfl)))))))
  obtain ⟨f0, f1, f2, f3, f4, f5, f6, f7⟩ := And.intro (S5.frozen 0 rfl 0) (And.intro (S5.frozen 0 rfl 1) (And.intro (S5.frozen 0 rfl 2) (And.intro (S5.frozen 0 rfl 3) (And.intro (S5.frozen 0 rfl 4) (And.intro (S5.frozen 0 rfl 5) (And.intro (S5.frozen 0 rfl 6) (S5.frozen 0 rfl 7)))))))
  have SX := ((((((((S5.setCell 0 rfl 0 (.int .i64 2)).setCell 0 rfl 1 (.int .i64 0)).setCell 0 rfl 2 (.int .i64 0)).setCell 0 rfl 3 (.int .i64 0)).setCell 0 rfl 4 (.int .i64 2)).setCell 0 rfl 5 (.slice a 1 q)).setCell 0 rfl 6 (.int .i64 0)).setCell 0 rfl 7 (.int .i64 100))
  have x1 := S5.cell 1 rfl 0 rfl
  have u1 := S5.frozen 1 rfl 0
  have x1b := SX.cell 1 rfl 0 rfl
  have u1b := SX.frozen 1 rfl 0
  have SY := SX.setCell 1 rfl 0 (.bool true)
  go_wp2
  refine leaves_cons (f := 30) (args := #[.pointer (some ⟨g2, 0, none⟩), .pointer (some ⟨g3, 0, none⟩)]) (by simp) (by simp [go_sem]) ?_
  refine (dCatch ⟨g2, 0, none⟩ ⟨g3, 0, none⟩ _).mono ?_
  rintro e u' w'' ⟨rfl, rfl, rfl⟩
  refine ⟨_, res_dial_bool rfl _ _ g2 g3 _ true rfl rfl (by exact SY.heap 0 rfl) rfl (by exact SY.cell 1 rfl 0 rfl), a, q, rfl, (SY.slG eQok 2 rfl).2.2.2.2, SY.fin⟩
end Go.Proofs.YtjfbmgndekfglaaDoor

namespace Go.Proofs.YtjfbmgndekfglaaDoor
set_option linter.unusedVariables false
set_option linter.unusedSimpArgs false
open Go.RowKit
theorem ix5 (k : Nat) (hk : k < 5) (wx : World) : (Instr.index 37 (.agg #[.int .i64 0, .int .i64 0, .int .i64 0, .int .i64 0, .int .i64 0]) (.int .i64 (k : Int))).run Tryd.prog wx = .ok (.int .i64 0) wx := by
  rcases (show k = 0 ∨ k = 1 ∨ k = 2 ∨ k = 3 ∨ k = 4 by omega) with rfl | rfl | rfl | rfl | rfl <;> kernel_rfl
set_option maxRecDepth 10000 in
set_option maxHeartbeats 1600000 in
theorem dAdd (gq : Nat) (w : World) (hA : AtG eQ w (some ⟨gq, 0, none⟩) [⟨0, 0, 0, 0, 0⟩]) :
    Calls Tryd.prog 15 #[.agg #[.int .i64 2, .int .i64 0, .int .i64 0, .int .i64 0, .int .i64 2, .slice (some ⟨gq, 0, none⟩) 1 1, .int .i64 0, .int .i64 100], .agg #[.int .i64 2, .int .i64 0, .int .i64 0, .int .i64 0, .int .i64 2, .slice (some ⟨gq, 0, none⟩) 1 1, .int .i64 0, .int .i64 100]] w fun e w' => ∃ gm, e = .returned (.agg #[.int .i64 4, .int .i64 0, .int .i64 0, .int .i64 0, .int .i64 4, .slice (some ⟨gm, 0, none⟩) 1 1, .int .i64 0, .int .i64 100]) ∧ Below w.heap.size w w' := by
  have S4 : St w _ [cellsT w.heap.size 34 [.int .i64 2, .int .i64 0, .int .i64 0, .int .i64 0, .int .i64 2, .slice (some ⟨gq, 0, none⟩) 1 1, .int .i64 0, .int .i64 100], cellsT (w.heap.size + 1) 34 [.int .i64 2, .int .i64 0, .int .i64 0, .int .i64 0, .int .i64 2, .slice (some ⟨gq, 0, none⟩) 1 1, .int .i64 0, .int .i64 100], cellsT (w.heap.size + 1 + 1) 34 (#[.int .i64 0, .int .i64 0, .int .i64 0, .int .i64 0, .int .i64 0, .slice none 0 0, .int .i64 0, .int .i64 0] : Array Value).toList, cellsT (w.heap.size + 1 + 1 + 1) 34 [.int .i64 4, .int .i64 0, .int .i64 0, .int .i64 0, .int .i64 4, .slice none 0 0, .int .i64 0, .int .i64 100]] := ((((St.start w).newAt 34 #[.int .i64 2, .int .i64 0, .int .i64 0, .int .i64 0, .int .i64 2, .slice (some ⟨gq, 0, none⟩) 1 1, .int .i64 0, .int .i64 100] w.heap.size rfl).newAt 34 #[.int .i64 2, .int .i64 0, .int .i64 0, .int .i64 0, .int .i64 2, .slice (some ⟨gq, 0, none⟩) 1 1, .int .i64 0, .int .i64 100] (w.heap.size + 1) (alloc_size _ _)).newAt 34 #[.int .i64 0, .int .i64 0, .int .i64 0, .int .i64 0, .int .i64 0, .slice none 0 0, .int .i64 0, .int .i64 0] (w.heap.size + 1 + 1) (by simp only [alloc_size])).newAt 34 #[.int .i64 4, .int .i64 0, .int .i64 0, .int .i64 0, .int .i64 4, .slice none 0 0, .int .i64 0, .int .i64 100] (w.heap.size + 1 + 1 + 1) (by simp only [alloc_size])
  have HA := hid hA
  clear hA
  go_enter Tryd.func15, Tryd.ntmps15
  go_upto_region 2 with fail
  generalize w.heap.size + 1 + 1 + 1 = g5 at *
  generalize w.heap.size + 1 + 1 = g4 at *
  generalize w.heap.size + 1 = g2 at *
  generalize w.heap.size = g1 at S4 ⊢
  generalize (((w.alloc _).alloc _).alloc _).alloc _ = w4 at *
  have x5 := S4.cell 0 rfl 5 rfl
  have y5 := S4.cell 1 rfl 5 rfl
  go_upto_region 3 with (at_make; refine wpList_make (by rfl) (.tmp 54) (.tmp 54) 32 rfl _ _ rfl rfl (run_makeQ w4 1 (by omega) (by omega)) ?_; rintro v2 w2 ⟨rfl, hq2, hb2⟩; obtain ⟨gm, hg2⟩ : ∃ g, w4.heap.size = g := ⟨_, rfl⟩; have S5 := S4.newQ hb2 hg2 hq2; rw [hg2]; have f5 := S5.frozen 3 rfl 5; have c5 := S5.cell 3 rfl 5 rfl; have S6 := S5.setCell 3 rfl 5 (.slice (some ⟨gm, 0, none⟩) 1 1); clear hb2 hq2 hg2; have x5b := S5.cell 0 rfl 5 rfl; have y5b := S5.cell 1 rfl 5 rfl)
  clear x5 y5 f5 c5 x5b y5b S4 S5
  generalize World.setCell _ _ _ = w6 at *
  have x6 := S6.cell 0 rfl 5 rfl
  have y6 := S6.cell 1 rfl 5 rfl
  have ixA : ∀ wx, (Instr.index 67 (.agg #[.slice (some ⟨gq, 0, none⟩) 1 1, .slice (some ⟨gq, 0, none⟩) 1 1]) (.int .i64 0)).run Tryd.prog wx = .ok (.slice (some ⟨gq, 0, none⟩) 1 1) wx := fun _ => by kernel_rfl
  have ixB : ∀ wx, (Instr.index 67 (.agg #[.slice (some ⟨gq, 0, none⟩) 1 1, .slice (some ⟨gq, 0, none⟩) 1 1]) (.int .i64 1)).run Tryd.prog wx = .ok (.slice (some ⟨gq, 0, none⟩) 1 1) wx := fun _ => by kernel_rfl
  have S7 : St w w6 [cellsT g1 34 [.int .i64 2, .int .i64 0, .int .i64 0, .int .i64 0, .int .i64 2, .slice (some ⟨gq, 0, none⟩) 1 1, .int .i64 0, .int .i64 100], cellsT g2 34 [.int .i64 2, .int .i64 0, .int .i64 0, .int .i64 0, .int .i64 2, .slice (some ⟨gq, 0, none⟩) 1 1, .int .i64 0, .int .i64 100], cellsT g4 34 (#[.int .i64 0, .int .i64 0, .int .i64 0, .int .i64 0, .int .i64 0, .slice none 0 0, .int .i64 0, .int .i64 0] : Array Value).toList, cellsT g5 34 [.int .i64 4, .int .i64 0, .int .i64 0, .int .i64 0, .int .i64 4, .slice (some ⟨gm, 0, none⟩) 1 1, .int .i64 0, .int .i64 100], cellsT gm 37 [.int .i64 0, .int .i64 0, .int .i64 0, .int .i64 0, .int .i64 0]] := S6
  clear S6
  go_wp2_with fail
  clear x6 y6
  go_loopg [62] 2 (fun m i wr => ((m = 2 ∧ i = .int .i64 0) ∨ (m = 1 ∧ i = .int .i64 1) ∨ (m = 0 ∧ i = .int .i64 2)) ∧ St w wr [cellsT g1 34 [.int .i64 2, .int .i64 0, .int .i64 0, .int .i64 0, .int .i64 2, .slice (some ⟨gq, 0, none⟩) 1 1, .int .i64 0, .int .i64 100], cellsT g2 34 [.int .i64 2, .int .i64 0, .int .i64 0, .int .i64 0, .int .i64 2, .slice (some ⟨gq, 0, none⟩) 1 1, .int .i64 0, .int .i64 100], cellsT g4 34 (#[.int .i64 0, .int .i64 0, .int .i64 0, .int .i64 0, .int .i64 0, .slice none 0 0, .int .i64 0, .int .i64 0] : Array Value).toList, cellsT g5 34 [.int .i64 4, .int .i64 0, .int .i64 0, .int .i64 0, .int .i64 4, .slice (some ⟨gm, 0, none⟩) 1 1, .int .i64 0, .int .i64 100], cellsT gm 37 [.int .i64 0, .int .i64 0, .int .i64 0, .int .i64 0, .int .i64 0]])
  case atStart => exact ⟨.inl ⟨rfl, rfl⟩, S7⟩
  case round =>
    obtain ⟨hm, SA⟩ := hrel
    clear S7
    rcases hm with ⟨rfl, rfl⟩ | ⟨rfl, rfl⟩ | ⟨rfl, rfl⟩
    · skip
      go_wp2_with fail
      go_loopg [67] 1 (fun m i wr => ((m = 1 ∧ i = .int .i64 0) ∨ (m = 0 ∧ i = .int .i64 1)) ∧ St w wr [cellsT g1 34 [.int .i64 2, .int .i64 0, .int .i64 0, .int .i64 0, .int .i64 2, .slice (some ⟨gq, 0, none⟩) 1 1, .int .i64 0, .int .i64 100], cellsT g2 34 [.int .i64 2, .int .i64 0, .int .i64 0, .int .i64 0, .int .i64 2, .slice (some ⟨gq, 0, none⟩) 1 1, .int .i64 0, .int .i64 100], cellsT g4 34 (#[.int .i64 0, .int .i64 0, .int .i64 0, .int .i64 0, .int .i64 0, .slice none 0 0, .int .i64 0, .int .i64 0] : Array Value).toList, cellsT g5 34 [.int .i64 4, .int .i64 0, .int .i64 0, .int .i64 0, .int .i64 4, .slice (some ⟨gm, 0, none⟩) 1 1, .int .i64 0, .int .i64 100], cellsT gm 37 [.int .i64 0, .int .i64 0, .int .i64 0, .int .i64 0, .int .i64 0]])
      case atStart => exact ⟨.inl ⟨rfl, rfl⟩, SA⟩
      case round =>
        obtain ⟨hm, SB⟩ := hrel
        clear SA
        rcases hm with ⟨rfl, rfl⟩ | ⟨rfl, rfl⟩
        · skip
          have i0 : ∀ wx, (Instr.indexAt 32 (.slice (some ⟨gq, 0, none⟩) 1 1) (.int .i64 0)).run Tryd.prog wx = .ok (.pointer (some ⟨gq, 0, none⟩)) wx := fun wx => idxQ (some ⟨gq, 0, none⟩) 1 1 (fun _ => rfl) 0 0 rfl (by decide) wx
          have hq := (HA.out.all eQok SB.fin) 0 (by decide)
          have q0 : wr.cell? ⟨gq, 0, none⟩ = some (.int .i64 0) := hq.2 0 (by decide)
          have q1 : wr.cell? ⟨gq, 1, none⟩ = some (.int .i64 0) := hq.2 1 (by decide)
          have q2 : wr.cell? ⟨gq, 2, none⟩ = some (.int .i64 0) := hq.2 2 (by decide)
          have q3 : wr.cell? ⟨gq, 3, none⟩ = some (.int .i64 0) := hq.2 3 (by decide)
          have q4 : wr.cell? ⟨gq, 4, none⟩ = some (.int .i64 0) := hq.2 4 (by decide)
          clear hq
          obtain ⟨g9, hg9⟩ : ∃ g9, wr.heap.size = g9 := ⟨_, rfl⟩
          have SC : St w _ [cellsT g1 34 [.int .i64 2, .int .i64 0, .int .i64 0, .int .i64 0, .int .i64 2, .slice (some ⟨gq, 0, none⟩) 1 1, .int .i64 0, .int .i64 100], cellsT g2 34 [.int .i64 2, .int .i64 0, .int .i64 0, .int .i64 0, .int .i64 2, .slice (some ⟨gq, 0, none⟩) 1 1, .int .i64 0, .int .i64 100], cellsT g4 34 (#[.int .i64 0, .int .i64 0, .int .i64 0, .int .i64 0, .int .i64 0, .slice none 0 0, .int .i64 0, .int .i64 0] : Array Value).toList, cellsT g5 34 [.int .i64 4, .int .i64 0, .int .i64 0, .int .i64 0, .int .i64 4, .slice (some ⟨gm, 0, none⟩) 1 1, .int .i64 0, .int .i64 100], cellsT gm 37 [.int .i64 0, .int .i64 0, .int .i64 0, .int .i64 0, .int .i64 0], cellsT g9 37 [.int .i64 0, .int .i64 0, .int .i64 0, .int .i64 0, .int .i64 0]] := SB.newAt 37 #[.int .i64 0, .int .i64 0, .int .i64 0, .int .i64 0, .int .i64 0] g9 hg9
          clear SB
          go_wp2_with fail
          clear hg9 q0 q1 q2 q3 q4 i0
          generalize wr.alloc _ = w9 at *
          go_loopw [73] (fun i wx => ∃ k : Nat, k ≤ 5 ∧ i = .int .i64 k ∧ St w wx [cellsT g1 34 [.int .i64 2, .int .i64 0, .int .i64 0, .int .i64 0, .int .i64 2, .slice (some ⟨gq, 0, none⟩) 1 1, .int .i64 0, .int .i64 100], cellsT g2 34 [.int .i64 2, .int .i64 0, .int .i64 0, .int .i64 0, .int .i64 2, .slice (some ⟨gq, 0, none⟩) 1 1, .int .i64 0, .int .i64 100], cellsT g4 34 (#[.int .i64 0, .int .i64 0, .int .i64 0, .int .i64 0, .int .i64 0, .slice none 0 0, .int .i64 0, .int .i64 0] : Array Value).toList, cellsT g5 34 [.int .i64 4, .int .i64 0, .int .i64 0, .int .i64 0, .int .i64 4, .slice (some ⟨gm, 0, none⟩) 1 1, .int .i64 0, .int .i64 100], cellsT gm 37 [.int .i64 0, .int .i64 0, .int .i64 0, .int .i64 0, .int .i64 0], cellsT g9 37 [.int .i64 0, .int .i64 0, .int .i64 0, .int .i64 0, .int .i64 0]]) (fun i _ => 5 - (intOf i).toNat)
          case atStart => exact ⟨0, by omega, rfl, SC⟩
          case round =>
            obtain ⟨k, hk, rfl, Sk⟩ := hrel
            clear SC
            by_cases hk5 : k < 5
            case neg =>
              have d1 : decide ((k : Int) < 5) = false := decide_eq_false (by omega)
              have d1n : decide (k < 5) = false := decide_eq_false hk5
              go_wp2
              go_roundg 0
              case measure => decide
              case rel => exact ⟨.inr ⟨rfl, rfl⟩, Sk.take 5⟩
            have d1 : decide ((k : Int) < 5) = true := decide_eq_true (by omega)
            have d1n : decide (k < 5) = true := decide_eq_true hk5
            have ik := ix5 k hk5
            have hwk : IntKind.i64.wrap ((k : Int) + 1) = (k : Int) + 1 := by rw [IntKind.wrap_i64]; omega
            have i6 : ∀ wx, (Instr.indexAt 32 (.slice (some ⟨gm, 0, none⟩) 1 1) (.int .i64 0)).run Tryd.prog wx = .ok (.pointer (some ⟨gm, 0, none⟩)) wx := fun wx => idxQ (some ⟨gm, 0, none⟩) 1 1 (fun _ => rfl) 0 0 rfl (by decide) wx
            have i7 := fun wx => idxP gm 0 k (k : Int) rfl hk5 wx
            simp only [Nat.zero_add] at i7
            have HV : ([.int .i64 0, .int .i64 0, .int .i64 0, .int .i64 0, .int .i64 0] : List Value)[k]? = some (.int .i64 0) := (show ∀ j, j < 5 → (([.int .i64 0, .int .i64 0, .int .i64 0, .int .i64 0, .int .i64 0] : List Value)[j]? = some (.int .i64 0)) from fun j hj => by rcases (show j = 0 ∨ j = 1 ∨ j = 2 ∨ j = 3 ∨ j = 4 by omega) with rfl | rfl | rfl | rfl | rfl <;> rfl) k hk5
            have HZ : ([.int .i64 0, .int .i64 0, .int .i64 0, .int .i64 0, .int .i64 0] : List Value).set k (.int .i64 0) = [.int .i64 0, .int .i64 0, .int .i64 0, .int .i64 0, .int .i64 0] := (show ∀ j, j < 5 → (([.int .i64 0, .int .i64 0, .int .i64 0, .int .i64 0, .int .i64 0] : List Value).set j (.int .i64 0) = [.int .i64 0, .int .i64 0, .int .i64 0, .int .i64 0, .int .i64 0]) from fun j hj => by rcases (show j = 0 ∨ j = 1 ∨ j = 2 ∨ j = 3 ∨ j = 4 by omega) with rfl | rfl | rfl | rfl | rfl <;> rfl) k hk5
            have c17 := Sk.drew.cell 4 rfl k HV
            have f17 := Sk.drew.frozen 4 rfl k
            have S17 := (Sk.setCell 4 rfl k (.int .i64 0)).drew
            rw [HZ] at S17
            have keep17 : _ ∧ _ := ⟨Sk.drew.cell 3 rfl 5 rfl, c17⟩
            clear HV HZ
            go_wp2_with fail
            refine wp_region_heldZ (S := fun w' => w'.cell? ⟨g5, 5, none⟩ = some (.slice (some ⟨gm, 0, none⟩) 1 1) ∧ w'.cell? ⟨gm, k, none⟩ = some (.int .i64 0)) 11 (by kernel_rfl) (by exact keep17) (fun hHeld => ?_)
            change wpAnyZ _ _ _ _ _ 11 12 (Array.replicate 12 false) _ _
            refine wpAnyZ_take (i := 0) (v := ?zv1) (ops_at rfl) (by kernel_rfl) (by kernel_rfl) (by kernel_rfl) (by kernel_rfl) [11] (by kernel_rfl) (by rfl) (fun _ _ _ h => h) (Or.inl ⟨by rfl, ?zhy1⟩) (by assumption) ?zrest1
            case zhy1 => intro w' hSw; (try dsimp only at hSw); go_simp; try with_reducible rfl
            try simp only [Act.put, List.setIfInBounds_toArray, List.set_cons_zero, List.set_cons_succ]
            refine wpAnyZ_take (i := 1) (v := ?zv2) (ops_at rfl) (by kernel_rfl) (by kernel_rfl) (by kernel_rfl) (by kernel_rfl) [11] (by kernel_rfl) (by rfl) (fun _ _ _ h => h) (Or.inl ⟨by rfl, ?zhy2⟩) (by assumption) ?zrest2
            case zhy2 => intro w' hSw; (try dsimp only at hSw); go_simp; try with_reducible rfl
            try simp only [Act.put, List.setIfInBounds_toArray, List.set_cons_zero, List.set_cons_succ]
            refine wpAnyZ_take (i := 2) (v := ?zv3) (ops_at rfl) (by kernel_rfl) (by kernel_rfl) (by kernel_rfl) (by kernel_rfl) [11] (by kernel_rfl) (by rfl) (fun _ _ _ h => h) (Or.inl ⟨by rfl, ?zhy3⟩) (by assumption) ?zrest3
            case zhy3 => intro w' hSw; (try dsimp only at hSw); go_simp; try with_reducible rfl
            try simp only [Act.put, List.setIfInBounds_toArray, List.set_cons_zero, List.set_cons_succ]
            refine wpAnyZ_take (i := 3) (v := ?zv4) (ops_at rfl) (by kernel_rfl) (by kernel_rfl) (by kernel_rfl) (by kernel_rfl) [11] (by kernel_rfl) (by rfl) (fun _ _ _ h => h) (Or.inl ⟨by rfl, ?zhy4⟩) (by assumption) ?zrest4
            case zhy4 => intro w' hSw; (try dsimp only at hSw); go_simp; try with_reducible rfl
            try simp only [Act.put, List.setIfInBounds_toArray, List.set_cons_zero, List.set_cons_succ]
            refine wpAnyZ_take (i := 7) (v := ?zv5) (ops_at rfl) (by kernel_rfl) (by kernel_rfl) (by kernel_rfl) (by kernel_rfl) [11] (by kernel_rfl) (by rfl) (fun _ _ _ h => h) (Or.inl ⟨by rfl, ?zhy5⟩) (by assumption) ?zrest5
            case zhy5 => intro w' hSw; (try dsimp only at hSw); go_simp; try with_reducible rfl
            try simp only [Act.put, List.setIfInBounds_toArray, List.set_cons_zero, List.set_cons_succ]
            refine wpAnyZ_two (i := 4) (j := 9) (by kernel_rfl) (ops_at rfl) (ops_at rfl) (fun K hK => ?_) (fun K hK => ?_)
            · go_simp
              refine hK.out _ _ (by exact keep17) (fun hHeld => ?_)
              clear hK K
              try simp only [Act.put, List.setIfInBounds_toArray, List.set_cons_zero, List.set_cons_succ]
              refine wpAnyZ_two (i := 5) (j := 9) (by kernel_rfl) (ops_at rfl) (ops_at rfl) (fun K hK => ?_) (fun K hK => ?_)
              · go_simp
                refine hK.out _ _ (by exact keep17) (fun hHeld => ?_)
                clear hK K
                try simp only [Act.put, List.setIfInBounds_toArray, List.set_cons_zero, List.set_cons_succ]
                refine wpAnyZ_take (i := 6) (v := ?zv6) (ops_at rfl) (by kernel_rfl) (by kernel_rfl) (by kernel_rfl) (by kernel_rfl) [11] (by kernel_rfl) (by rfl) (fun _ _ _ h => h) (Or.inl ⟨by rfl, ?zhy6⟩) (by assumption) ?zrest6
                case zhy6 => intro w' hSw; (try dsimp only at hSw); go_simp; try with_reducible rfl
                try simp only [Act.put, List.setIfInBounds_toArray, List.set_cons_zero, List.set_cons_succ]
                refine wpAnyZ_take (i := 8) (v := ?zv7) (ops_at rfl) (by kernel_rfl) (by kernel_rfl) (by kernel_rfl) (by kernel_rfl) [11] (by kernel_rfl) (by rfl) (fun _ _ _ h => h) (Or.inl ⟨by rfl, ?zhy7⟩) (by assumption) ?zrest7
                case zhy7 => intro w' hSw; (try dsimp only at hSw); go_simp; try with_reducible rfl
                try simp only [Act.put, List.setIfInBounds_toArray, List.set_cons_zero, List.set_cons_succ]
                refine wpAnyZ_one (i := 9) (by kernel_rfl) (ops_at rfl) (fun K hK => ?_)
                go_simp
                refine hK.out _ _ (by exact keep17) (fun hHeld => ?_)
                clear hK K
                try simp only [Act.put, List.setIfInBounds_toArray, List.set_cons_zero, List.set_cons_succ]
                refine wpAnyZ_one (i := 10) (by kernel_rfl) (ops_at rfl) (fun K hK => ?_)
                go_simp
                refine hK.out _ _ (by exact keep17) (fun hHeld => ?_)
                clear hK K
                try simp only [Act.put, List.setIfInBounds_toArray, List.set_cons_zero, List.set_cons_succ]
                refine wpAnyZ_free (i := 11) (by kernel_rfl) (ops_at rfl) (by kernel_rfl) (fun K hK => ?_)
                go_simp
                refine hK.out _ _ ?_
                clear hK K
                try simp only [Act.put, List.setIfInBounds_toArray, List.set_cons_zero, List.set_cons_succ]
                refine wpAnyZ_done (by kernel_rfl) ?_ _
                go_wp2
                go_roundw
                case rel => exact ⟨k + 1, by omega, by go_num, S17⟩
                case measure => simp [intOf]; omega
              · go_simp
                refine hK.out _ _ (by exact keep17) (fun hHeld => ?_)
                clear hK K
                try simp only [Act.put, List.setIfInBounds_toArray, List.set_cons_zero, List.set_cons_succ]
                refine wpAnyZ_one (i := 5) (by kernel_rfl) (ops_at rfl) (fun K hK => ?_)
                go_simp
                refine hK.out _ _ (by exact keep17) (fun hHeld => ?_)
                clear hK K
                try simp only [Act.put, List.setIfInBounds_toArray, List.set_cons_zero, List.set_cons_succ]
                refine wpAnyZ_take (i := 6) (v := ?zv8) (ops_at rfl) (by kernel_rfl) (by kernel_rfl) (by kernel_rfl) (by kernel_rfl) [11] (by kernel_rfl) (by rfl) (fun _ _ _ h => h) (Or.inl ⟨by rfl, ?zhy8⟩) (by assumption) ?zrest8
                case zhy8 => intro w' hSw; (try dsimp only at hSw); go_simp; try with_reducible rfl
                try simp only [Act.put, List.setIfInBounds_toArray, List.set_cons_zero, List.set_cons_succ]
                refine wpAnyZ_take (i := 8) (v := ?zv9) (ops_at rfl) (by kernel_rfl) (by kernel_rfl) (by kernel_rfl) (by kernel_rfl) [11] (by kernel_rfl) (by rfl) (fun _ _ _ h => h) (Or.inl ⟨by rfl, ?zhy9⟩) (by assumption) ?zrest9
                case zhy9 => intro w' hSw; (try dsimp only at hSw); go_simp; try with_reducible rfl
                try simp only [Act.put, List.setIfInBounds_toArray, List.set_cons_zero, List.set_cons_succ]
                refine wpAnyZ_one (i := 10) (by kernel_rfl) (ops_at rfl) (fun K hK => ?_)
                go_simp
                refine hK.out _ _ (by exact keep17) (fun hHeld => ?_)
                clear hK K
                try simp only [Act.put, List.setIfInBounds_toArray, List.set_cons_zero, List.set_cons_succ]
                refine wpAnyZ_free (i := 11) (by kernel_rfl) (ops_at rfl) (by kernel_rfl) (fun K hK => ?_)
                go_simp
                refine hK.out _ _ ?_
                clear hK K
                try simp only [Act.put, List.setIfInBounds_toArray, List.set_cons_zero, List.set_cons_succ]
                refine wpAnyZ_done (by kernel_rfl) ?_ _
                go_wp2
                go_roundw
                case rel => exact ⟨k + 1, by omega, by go_num, S17⟩
                case measure => simp [intOf]; omega
            · go_simp
              refine hK.out _ _ (by exact keep17) (fun hHeld => ?_)
              clear hK K
              try simp only [Act.put, List.setIfInBounds_toArray, List.set_cons_zero, List.set_cons_succ]
              refine wpAnyZ_one (i := 4) (by kernel_rfl) (ops_at rfl) (fun K hK => ?_)
              go_simp
              refine hK.out _ _ (by exact keep17) (fun hHeld => ?_)
              clear hK K
              try simp only [Act.put, List.setIfInBounds_toArray, List.set_cons_zero, List.set_cons_succ]
              refine wpAnyZ_one (i := 5) (by kernel_rfl) (ops_at rfl) (fun K hK => ?_)
              go_simp
              refine hK.out _ _ (by exact keep17) (fun hHeld => ?_)
              clear hK K
              try simp only [Act.put, List.setIfInBounds_toArray, List.set_cons_zero, List.set_cons_succ]
              refine wpAnyZ_take (i := 6) (v := ?zv10) (ops_at rfl) (by kernel_rfl) (by kernel_rfl) (by kernel_rfl) (by kernel_rfl) [11] (by kernel_rfl) (by rfl) (fun _ _ _ h => h) (Or.inl ⟨by rfl, ?zhy10⟩) (by assumption) ?zrest10
              case zhy10 => intro w' hSw; (try dsimp only at hSw); go_simp; try with_reducible rfl
              try simp only [Act.put, List.setIfInBounds_toArray, List.set_cons_zero, List.set_cons_succ]
              refine wpAnyZ_take (i := 8) (v := ?zv11) (ops_at rfl) (by kernel_rfl) (by kernel_rfl) (by kernel_rfl) (by kernel_rfl) [11] (by kernel_rfl) (by rfl) (fun _ _ _ h => h) (Or.inl ⟨by rfl, ?zhy11⟩) (by assumption) ?zrest11
              case zhy11 => intro w' hSw; (try dsimp only at hSw); go_simp; try with_reducible rfl
              try simp only [Act.put, List.setIfInBounds_toArray, List.set_cons_zero, List.set_cons_succ]
              refine wpAnyZ_one (i := 10) (by kernel_rfl) (ops_at rfl) (fun K hK => ?_)
              go_simp
              refine hK.out _ _ (by exact keep17) (fun hHeld => ?_)
              clear hK K
              try simp only [Act.put, List.setIfInBounds_toArray, List.set_cons_zero, List.set_cons_succ]
              refine wpAnyZ_free (i := 11) (by kernel_rfl) (ops_at rfl) (by kernel_rfl) (fun K hK => ?_)
              go_simp
              refine hK.out _ _ ?_
              clear hK K
              try simp only [Act.put, List.setIfInBounds_toArray, List.set_cons_zero, List.set_cons_succ]
              refine wpAnyZ_done (by kernel_rfl) ?_ _
              go_wp2
              go_roundw
              case rel => exact ⟨k + 1, by omega, by go_num, S17⟩
              case measure => simp [intOf]; omega
        · skip
          go_wp2
          go_roundg 1
          case measure => decide
          case rel => exact ⟨.inr (.inl ⟨rfl, rfl⟩), SB⟩
    · skip
      go_wp2_with fail
      go_loopg [67] 1 (fun m i wr => ((m = 1 ∧ i = .int .i64 0) ∨ (m = 0 ∧ i = .int .i64 1)) ∧ St w wr [cellsT g1 34 [.int .i64 2, .int .i64 0, .int .i64 0, .int .i64 0, .int .i64 2, .slice (some ⟨gq, 0, none⟩) 1 1, .int .i64 0, .int .i64 100], cellsT g2 34 [.int .i64 2, .int .i64 0, .int .i64 0, .int .i64 0, .int .i64 2, .slice (some ⟨gq, 0, none⟩) 1 1, .int .i64 0, .int .i64 100], cellsT g4 34 (#[.int .i64 0, .int .i64 0, .int .i64 0, .int .i64 0, .int .i64 0, .slice none 0 0, .int .i64 0, .int .i64 0] : Array Value).toList, cellsT g5 34 [.int .i64 4, .int .i64 0, .int .i64 0, .int .i64 0, .int .i64 4, .slice (some ⟨gm, 0, none⟩) 1 1, .int .i64 0, .int .i64 100], cellsT gm 37 [.int .i64 0, .int .i64 0, .int .i64 0, .int .i64 0, .int .i64 0]])
      case atStart => exact ⟨.inl ⟨rfl, rfl⟩, SA⟩
      case round =>
        obtain ⟨hm, SB⟩ := hrel
        clear SA
        rcases hm with ⟨rfl, rfl⟩ | ⟨rfl, rfl⟩
        · skip
          have i0 : ∀ wx, (Instr.indexAt 32 (.slice (some ⟨gq, 0, none⟩) 1 1) (.int .i64 0)).run Tryd.prog wx = .ok (.pointer (some ⟨gq, 0, none⟩)) wx := fun wx => idxQ (some ⟨gq, 0, none⟩) 1 1 (fun _ => rfl) 0 0 rfl (by decide) wx
          have hq := (HA.out.all eQok SB.fin) 0 (by decide)
          have q0 : wr.cell? ⟨gq, 0, none⟩ = some (.int .i64 0) := hq.2 0 (by decide)
          have q1 : wr.cell? ⟨gq, 1, none⟩ = some (.int .i64 0) := hq.2 1 (by decide)
          have q2 : wr.cell? ⟨gq, 2, none⟩ = some (.int .i64 0) := hq.2 2 (by decide)
          have q3 : wr.cell? ⟨gq, 3, none⟩ = some (.int .i64 0) := hq.2 3 (by decide)
          have q4 : wr.cell? ⟨gq, 4, none⟩ = some (.int .i64 0) := hq.2 4 (by decide)
          clear hq
          obtain ⟨g9, hg9⟩ : ∃ g9, wr.heap.size = g9 := ⟨_, rfl⟩
          have SC : St w _ [cellsT g1 34 [.int .i64 2, .int .i64 0, .int .i64 0, .int .i64 0, .int .i64 2, .slice (some ⟨gq, 0, none⟩) 1 1, .int .i64 0, .int .i64 100], cellsT g2 34 [.int .i64 2, .int .i64 0, .int .i64 0, .int .i64 0, .int .i64 2, .slice (some ⟨gq, 0, none⟩) 1 1, .int .i64 0, .int .i64 100], cellsT g4 34 (#[.int .i64 0, .int .i64 0, .int .i64 0, .int .i64 0, .int .i64 0, .slice none 0 0, .int .i64 0, .int .i64 0] : Array Value).toList, cellsT g5 34 [.int .i64 4, .int .i64 0, .int .i64 0, .int .i64 0, .int .i64 4, .slice (some ⟨gm, 0, none⟩) 1 1, .int .i64 0, .int .i64 100], cellsT gm 37 [.int .i64 0, .int .i64 0, .int .i64 0, .int .i64 0, .int .i64 0], cellsT g9 37 [.int .i64 0, .int .i64 0, .int .i64 0, .int .i64 0, .int .i64 0]] := SB.newAt 37 #[.int .i64 0, .int .i64 0, .int .i64 0, .int .i64 0, .int .i64 0] g9 hg9
          clear SB
          go_wp2_with fail
          clear hg9 q0 q1 q2 q3 q4 i0
          generalize wr.alloc _ = w9 at *
          go_loopw [73] (fun i wx => ∃ k : Nat, k ≤ 5 ∧ i = .int .i64 k ∧ St w wx [cellsT g1 34 [.int .i64 2, .int .i64 0, .int .i64 0, .int .i64 0, .int .i64 2, .slice (some ⟨gq, 0, none⟩) 1 1, .int .i64 0, .int .i64 100], cellsT g2 34 [.int .i64 2, .int .i64 0, .int .i64 0, .int .i64 0, .int .i64 2, .slice (some ⟨gq, 0, none⟩) 1 1, .int .i64 0, .int .i64 100], cellsT g4 34 (#[.int .i64 0, .int .i64 0, .int .i64 0, .int .i64 0, .int .i64 0, .slice none 0 0, .int .i64 0, .int .i64 0] : Array Value).toList, cellsT g5 34 [.int .i64 4, .int .i64 0, .int .i64 0, .int .i64 0, .int .i64 4, .slice (some ⟨gm, 0, none⟩) 1 1, .int .i64 0, .int .i64 100], cellsT gm 37 [.int .i64 0, .int .i64 0, .int .i64 0, .int .i64 0, .int .i64 0], cellsT g9 37 [.int .i64 0, .int .i64 0, .int .i64 0, .int .i64 0, .int .i64 0]]) (fun i _ => 5 - (intOf i).toNat)
          case atStart => exact ⟨0, by omega, rfl, SC⟩
          case round =>
            obtain ⟨k, hk, rfl, Sk⟩ := hrel
            clear SC
            by_cases hk5 : k < 5
            case neg =>
              have d1 : decide ((k : Int) < 5) = false := decide_eq_false (by omega)
              have d1n : decide (k < 5) = false := decide_eq_false hk5
              go_wp2
              go_roundg 0
              case measure => decide
              case rel => exact ⟨.inr ⟨rfl, rfl⟩, Sk.take 5⟩
            have d1 : decide ((k : Int) < 5) = true := decide_eq_true (by omega)
            have d1n : decide (k < 5) = true := decide_eq_true hk5
            have ik := ix5 k hk5
            have hwk : IntKind.i64.wrap ((k : Int) + 1) = (k : Int) + 1 := by rw [IntKind.wrap_i64]; omega
            have i6 : ∀ wx, (Instr.indexAt 32 (.slice (some ⟨gm, 0, none⟩) 1 1) (.int .i64 0)).run Tryd.prog wx = .ok (.pointer (some ⟨gm, 0, none⟩)) wx := fun wx => idxQ (some ⟨gm, 0, none⟩) 1 1 (fun _ => rfl) 0 0 rfl (by decide) wx
            have i7 := fun wx => idxP gm 0 k (k : Int) rfl hk5 wx
            simp only [Nat.zero_add] at i7
            have HV : ([.int .i64 0, .int .i64 0, .int .i64 0, .int .i64 0, .int .i64 0] : List Value)[k]? = some (.int .i64 0) := (show ∀ j, j < 5 → (([.int .i64 0, .int .i64 0, .int .i64 0, .int .i64 0, .int .i64 0] : List Value)[j]? = some (.int .i64 0)) from fun j hj => by rcases (show j = 0 ∨ j = 1 ∨ j = 2 ∨ j = 3 ∨ j = 4 by omega) with rfl | rfl | rfl | rfl | rfl <;> rfl) k hk5
            have HZ : ([.int .i64 0, .int .i64 0, .int .i64 0, .int .i64 0, .int .i64 0] : List Value).set k (.int .i64 0) = [.int .i64 0, .int .i64 0, .int .i64 0, .int .i64 0, .int .i64 0] := (show ∀ j, j < 5 → (([.int .i64 0, .int .i64 0, .int .i64 0, .int .i64 0, .int .i64 0] : List Value).set j (.int .i64 0) = [.int .i64 0, .int .i64 0, .int .i64 0, .int .i64 0, .int .i64 0]) from fun j hj => by rcases (show j = 0 ∨ j = 1 ∨ j = 2 ∨ j = 3 ∨ j = 4 by omega) with rfl | rfl | rfl | rfl | rfl <;> rfl) k hk5
            have c17 := Sk.drew.cell 4 rfl k HV
            have f17 := Sk.drew.frozen 4 rfl k
            have S17 := (Sk.setCell 4 rfl k (.int .i64 0)).drew
            rw [HZ] at S17
            have keep17 : _ ∧ _ := ⟨Sk.drew.cell 3 rfl 5 rfl, c17⟩
            clear HV HZ
            go_wp2_with fail
            refine wp_region_heldZ (S := fun w' => w'.cell? ⟨g5, 5, none⟩ = some (.slice (some ⟨gm, 0, none⟩) 1 1) ∧ w'.cell? ⟨gm, k, none⟩ = some (.int .i64 0)) 11 (by kernel_rfl) (by exact keep17) (fun hHeld => ?_)
            change wpAnyZ _ _ _ _ _ 11 12 (Array.replicate 12 false) _ _
            refine wpAnyZ_take (i := 0) (v := ?zw1) (ops_at rfl) (by kernel_rfl) (by kernel_rfl) (by kernel_rfl) (by kernel_rfl) [11] (by kernel_rfl) (by rfl) (fun _ _ _ h => h) (Or.inl ⟨by rfl, ?zhz1⟩) (by assumption) ?zrext1
            case zhz1 => intro w' hSw; (try dsimp only at hSw); go_simp; try with_reducible rfl
            try simp only [Act.put, List.setIfInBounds_toArray, List.set_cons_zero, List.set_cons_succ]
            refine wpAnyZ_take (i := 1) (v := ?zw2) (ops_at rfl) (by kernel_rfl) (by kernel_rfl) (by kernel_rfl) (by kernel_rfl) [11] (by kernel_rfl) (by rfl) (fun _ _ _ h => h) (Or.inl ⟨by rfl, ?zhz2⟩) (by assumption) ?zrext2
            case zhz2 => intro w' hSw; (try dsimp only at hSw); go_simp; try with_reducible rfl
            try simp only [Act.put, List.setIfInBounds_toArray, List.set_cons_zero, List.set_cons_succ]
            refine wpAnyZ_take (i := 2) (v := ?zw3) (ops_at rfl) (by kernel_rfl) (by kernel_rfl) (by kernel_rfl) (by kernel_rfl) [11] (by kernel_rfl) (by rfl) (fun _ _ _ h => h) (Or.inl ⟨by rfl, ?zhz3⟩) (by assumption) ?zrext3
            case zhz3 => intro w' hSw; (try dsimp only at hSw); go_simp; try with_reducible rfl
            try simp only [Act.put, List.setIfInBounds_toArray, List.set_cons_zero, List.set_cons_succ]
            refine wpAnyZ_take (i := 3) (v := ?zw4) (ops_at rfl) (by kernel_rfl) (by kernel_rfl) (by kernel_rfl) (by kernel_rfl) [11] (by kernel_rfl) (by rfl) (fun _ _ _ h => h) (Or.inl ⟨by rfl, ?zhz4⟩) (by assumption) ?zrext4
            case zhz4 => intro w' hSw; (try dsimp only at hSw); go_simp; try with_reducible rfl
            try simp only [Act.put, List.setIfInBounds_toArray, List.set_cons_zero, List.set_cons_succ]
            refine wpAnyZ_take (i := 7) (v := ?zw5) (ops_at rfl) (by kernel_rfl) (by kernel_rfl) (by kernel_rfl) (by kernel_rfl) [11] (by kernel_rfl) (by rfl) (fun _ _ _ h => h) (Or.inl ⟨by rfl, ?zhz5⟩) (by assumption) ?zrext5
            case zhz5 => intro w' hSw; (try dsimp only at hSw); go_simp; try with_reducible rfl
            try simp only [Act.put, List.setIfInBounds_toArray, List.set_cons_zero, List.set_cons_succ]
            refine wpAnyZ_two (i := 4) (j := 9) (by kernel_rfl) (ops_at rfl) (ops_at rfl) (fun K hK => ?_) (fun K hK => ?_)
            · go_simp
              refine hK.out _ _ (by exact keep17) (fun hHeld => ?_)
              clear hK K
              try simp only [Act.put, List.setIfInBounds_toArray, List.set_cons_zero, List.set_cons_succ]
              refine wpAnyZ_two (i := 5) (j := 9) (by kernel_rfl) (ops_at rfl) (ops_at rfl) (fun K hK => ?_) (fun K hK => ?_)
              · go_simp
                refine hK.out _ _ (by exact keep17) (fun hHeld => ?_)
                clear hK K
                try simp only [Act.put, List.setIfInBounds_toArray, List.set_cons_zero, List.set_cons_succ]
                refine wpAnyZ_take (i := 6) (v := ?zw6) (ops_at rfl) (by kernel_rfl) (by kernel_rfl) (by kernel_rfl) (by kernel_rfl) [11] (by kernel_rfl) (by rfl) (fun _ _ _ h => h) (Or.inl ⟨by rfl, ?zhz6⟩) (by assumption) ?zrext6
                case zhz6 => intro w' hSw; (try dsimp only at hSw); go_simp; try with_reducible rfl
                try simp only [Act.put, List.setIfInBounds_toArray, List.set_cons_zero, List.set_cons_succ]
                refine wpAnyZ_take (i := 8) (v := ?zw7) (ops_at rfl) (by kernel_rfl) (by kernel_rfl) (by kernel_rfl) (by kernel_rfl) [11] (by kernel_rfl) (by rfl) (fun _ _ _ h => h) (Or.inl ⟨by rfl, ?zhz7⟩) (by assumption) ?zrext7
                case zhz7 => intro w' hSw; (try dsimp only at hSw); go_simp; try with_reducible rfl
                try simp only [Act.put, List.setIfInBounds_toArray, List.set_cons_zero, List.set_cons_succ]
                refine wpAnyZ_one (i := 9) (by kernel_rfl) (ops_at rfl) (fun K hK => ?_)
                go_simp
                refine hK.out _ _ (by exact keep17) (fun hHeld => ?_)
                clear hK K
                try simp only [Act.put, List.setIfInBounds_toArray, List.set_cons_zero, List.set_cons_succ]
                refine wpAnyZ_one (i := 10) (by kernel_rfl) (ops_at rfl) (fun K hK => ?_)
                go_simp
                refine hK.out _ _ (by exact keep17) (fun hHeld => ?_)
                clear hK K
                try simp only [Act.put, List.setIfInBounds_toArray, List.set_cons_zero, List.set_cons_succ]
                refine wpAnyZ_free (i := 11) (by kernel_rfl) (ops_at rfl) (by kernel_rfl) (fun K hK => ?_)
                go_simp
                refine hK.out _ _ ?_
                clear hK K
                try simp only [Act.put, List.setIfInBounds_toArray, List.set_cons_zero, List.set_cons_succ]
                refine wpAnyZ_done (by kernel_rfl) ?_ _
                go_wp2
                go_roundw
                case rel => exact ⟨k + 1, by omega, by go_num, S17⟩
                case measure => simp [intOf]; omega
              · go_simp
                refine hK.out _ _ (by exact keep17) (fun hHeld => ?_)
                clear hK K
                try simp only [Act.put, List.setIfInBounds_toArray, List.set_cons_zero, List.set_cons_succ]
                refine wpAnyZ_one (i := 5) (by kernel_rfl) (ops_at rfl) (fun K hK => ?_)
                go_simp
                refine hK.out _ _ (by exact keep17) (fun hHeld => ?_)
                clear hK K
                try simp only [Act.put, List.setIfInBounds_toArray, List.set_cons_zero, List.set_cons_succ]
                refine wpAnyZ_take (i := 6) (v := ?zw8) (ops_at rfl) (by kernel_rfl) (by kernel_rfl) (by kernel_rfl) (by kernel_rfl) [11] (by kernel_rfl) (by rfl) (fun _ _ _ h => h) (Or.inl ⟨by rfl, ?zhz8⟩) (by assumption) ?zrext8
                case zhz8 => intro w' hSw; (try dsimp only at hSw); go_simp; try with_reducible rfl
                try simp only [Act.put, List.setIfInBounds_toArray, List.set_cons_zero, List.set_cons_succ]
                refine wpAnyZ_take (i := 8) (v := ?zw9) (ops_at rfl) (by kernel_rfl) (by kernel_rfl) (by kernel_rfl) (by kernel_rfl) [11] (by kernel_rfl) (by rfl) (fun _ _ _ h => h) (Or.inl ⟨by rfl, ?zhz9⟩) (by assumption) ?zrext9
                case zhz9 => intro w' hSw; (try dsimp only at hSw); go_simp; try with_reducible rfl
                try simp only [Act.put, List.setIfInBounds_toArray, List.set_cons_zero, List.set_cons_succ]
                refine wpAnyZ_one (i := 10) (by kernel_rfl) (ops_at rfl) (fun K hK => ?_)
                go_simp
                refine hK.out _ _ (by exact keep17) (fun hHeld => ?_)
                clear hK K
                try simp only [Act.put, List.setIfInBounds_toArray, List.set_cons_zero, List.set_cons_succ]
                refine wpAnyZ_free (i := 11) (by kernel_rfl) (ops_at rfl) (by kernel_rfl) (fun K hK => ?_)
                go_simp
                refine hK.out _ _ ?_
                clear hK K
                try simp only [Act.put, List.setIfInBounds_toArray, List.set_cons_zero, List.set_cons_succ]
                refine wpAnyZ_done (by kernel_rfl) ?_ _
                go_wp2
                go_roundw
                case rel => exact ⟨k + 1, by omega, by go_num, S17⟩
                case measure => simp [intOf]; omega
            · go_simp
              refine hK.out _ _ (by exact keep17) (fun hHeld => ?_)
              clear hK K
              try simp only [Act.put, List.setIfInBounds_toArray, List.set_cons_zero, List.set_cons_succ]
              refine wpAnyZ_one (i := 4) (by kernel_rfl) (ops_at rfl) (fun K hK => ?_)
              go_simp
              refine hK.out _ _ (by exact keep17) (fun hHeld => ?_)
              clear hK K
              try simp only [Act.put, List.setIfInBounds_toArray, List.set_cons_zero, List.set_cons_succ]
              refine wpAnyZ_one (i := 5) (by kernel_rfl) (ops_at rfl) (fun K hK => ?_)
              go_simp
              refine hK.out _ _ (by exact keep17) (fun hHeld => ?_)
              clear hK K
              try simp only [Act.put, List.setIfInBounds_toArray, List.set_cons_zero, List.set_cons_succ]
              refine wpAnyZ_take (i := 6) (v := ?zw10) (ops_at rfl) (by kernel_rfl) (by kernel_rfl) (by kernel_rfl) (by kernel_rfl) [11] (by kernel_rfl) (by rfl) (fun _ _ _ h => h) (Or.inl ⟨by rfl, ?zhz10⟩) (by assumption) ?zrext10
              case zhz10 => intro w' hSw; (try dsimp only at hSw); go_simp; try with_reducible rfl
              try simp only [Act.put, List.setIfInBounds_toArray, List.set_cons_zero, List.set_cons_succ]
              refine wpAnyZ_take (i := 8) (v := ?zw11) (ops_at rfl) (by kernel_rfl) (by kernel_rfl) (by kernel_rfl) (by kernel_rfl) [11] (by kernel_rfl) (by rfl) (fun _ _ _ h => h) (Or.inl ⟨by rfl, ?zhz11⟩) (by assumption) ?zrext11
              case zhz11 => intro w' hSw; (try dsimp only at hSw); go_simp; try with_reducible rfl
              try simp only [Act.put, List.setIfInBounds_toArray, List.set_cons_zero, List.set_cons_succ]
              refine wpAnyZ_one (i := 10) (by kernel_rfl) (ops_at rfl) (fun K hK => ?_)
              go_simp
              refine hK.out _ _ (by exact keep17) (fun hHeld => ?_)
              clear hK K
              try simp only [Act.put, List.setIfInBounds_toArray, List.set_cons_zero, List.set_cons_succ]
              refine wpAnyZ_free (i := 11) (by kernel_rfl) (ops_at rfl) (by kernel_rfl) (fun K hK => ?_)
              go_simp
              refine hK.out _ _ ?_
              clear hK K
              try simp only [Act.put, List.setIfInBounds_toArray, List.set_cons_zero, List.set_cons_succ]
              refine wpAnyZ_done (by kernel_rfl) ?_ _
              go_wp2
              go_roundw
              case rel => exact ⟨k + 1, by omega, by go_num, S17⟩
              case measure => simp [intOf]; omega
        · skip
          go_wp2
          go_roundg 0
          case measure => decide
          case rel => exact ⟨.inr (.inr ⟨rfl, rfl⟩), SB⟩
    · skip
      obtain ⟨y0, y1, y2, y3, y4, y5, y6, y7⟩ := And.intro (SA.cell 3 rfl 0 rfl) (And.intro (SA.cell 3 rfl 1 rfl) (And.intro (SA.cell 3 rfl 2 rfl) (And.intro (SA.cell 3 rfl 3 rfl) (And.intro (SA.cell 3 rfl 4 rfl) (And.intro (SA.cell 3 rfl 5 rfl) (And.intro (SA.cell 3 rfl 6 rfl) (SA.cell 3 rfl 7 rfl)))))))
      obtain ⟨z0, z1, z2, z3, z4, z5, z6, z7⟩ := And.intro (SA.cell 2 rfl 0 rfl) (And.intro (SA.cell 2 rfl 1 rfl) (And.intro (SA.cell 2 rfl 2 rfl) (And.intro (SA.cell 2 rfl 3 rfl) (And.intro (SA.cell 2 rfl 4 rfl) (And.intro (SA.cell 2 rfl 5 rfl) (And.intro (SA.cell 2 rfl 6 rfl) (SA.cell 2 rfl 7 rfl)))))))
      obtain ⟨f0, f1, f2, f3, f4, f5, f6, f7⟩ := And.intro (SA.frozen 2 rfl 0) (And.intro (SA.frozen 2 rfl 1) (And.intro (SA.frozen 2 rfl 2) (And.intro (SA.frozen 2 rfl 3) (And.intro (SA.frozen 2 rfl 4) (And.intro (SA.frozen 2 rfl 5) (And.intro (SA.frozen 2 rfl 6) (SA.frozen 2 rfl 7)))))))
      have SX := ((((((((SA.setCell 2 rfl 0 (.int .i64 4)).setCell 2 rfl 1 (.int .i64 0)).setCell 2 rfl 2 (.int .i64 0)).setCell 2 rfl 3 (.int .i64 0)).setCell 2 rfl 4 (.int .i64 4)).setCell 2 rfl 5 (.slice (some ⟨gm, 0, none⟩) 1 1)).setCell 2 rfl 6 (.int .i64 0)).setCell 2 rfl 7 (.int .i64 100))
      go_wp2
      refine bodyPost_ret (res_dial rfl _ _ g4 _ rfl (by exact SX.heap 2 rfl) rfl) rfl ?_
      exact ⟨⟨gm, rfl⟩, SX.fin⟩
end Go.Proofs.YtjfbmgndekfglaaDoor
