/- The document's disk: Crash, Sync, Bytes. -/
import Derived.Test.YtkkailggpfmgaaaRdisk
namespace Go.Proofs.Ytkkailggpfmgaaa
set_option linter.unusedVariables false
set_option linter.unusedSimpArgs false
open Go.RowKit

section
variable {w0 w : World} {tl : List Thing} {p : Value} {r : RD}
theorem run_both {x : Sem Value} {w : World} {A B : Value → World → Prop} (h1 : ∃ v w', x.run Try.prog w = .ok v w' ∧ A v w') (h2 : ∃ v w', x.run Try.prog w = .ok v w' ∧ B v w') : ∃ v w', x.run Try.prog w = .ok v w' ∧ A v w' ∧ B v w' := by
  obtain ⟨v, w', e, ha⟩ := h1
  obtain ⟨v2, w2, e2, hb⟩ := h2
  rw [e] at e2
  cases e2
  exact ⟨v, w', e, ha, hb⟩
theorem rdSet_len (ps : List (Nat × UInt8)) : ∀ b : List UInt8, (rdSet b ps).length = b.length := by
  unfold rdSet
  induction ps with
  | nil => intro b; rfl
  | cons p ps ih => intro b; rw [List.foldl_cons, ih, List.length_set]
theorem rdSet_take (b : List UInt8) (ps : List (Nat × UInt8)) (k : Nat) (hk : k < ps.length) : rdSet b (ps.take (k + 1)) = (rdSet b (ps.take k)).set ps[k].1 ps[k].2 := by
  unfold rdSet
  rw [List.take_succ_eq_append_getElem hk, List.foldl_append]; rfl
theorem St.setByte {g k n c : Nat} {l : List UInt8} (j : Nat) (hj : tl[j]? = some (bytesT (.slice (some ⟨g, 0, none⟩) n c) l)) (S : St w0 w tl) (x : UInt8) : St w0 (w.setCell ⟨g, k, none⟩ (bv x)) (tl.set j (bytesT (.slice (some ⟨g, 0, none⟩) n c) (l.set k x))) := by
  have hn := (S.slA j hj).1
  obtain ⟨F, ⟨h1, h2⟩, h3⟩ := S.step j hj
  exact h3 _ _ F ⟨h1.set hn k x, h2⟩ ((Touch.refl F w).setCell (p := ⟨g, k, none⟩) (.inl ((h2 g).2 rfl)) _) (fun b hb => .inl hb)

set_option maxRecDepth 10000 in
set_option maxHeartbeats 1600000 in
theorem rdcrash_any (S : St w0 w (rdT p r :: tl)) (keep : Int) (hps : r.ps.length ≤ 100000000) :
    Calls Try.prog 32 #[p, .int .i64 keep] w fun e w' => e = .returned (.tuple #[]) ∧ St w0 w' (rdT p (r.crash keep) :: tl) := by
  obtain ⟨hok, g, vb, va, vv, rfl, S1⟩ := S.rdOpen
  have HOk := hid hok
  obtain ⟨N, hN⟩ : ∃ N, r.ps.length = N := ⟨_, rfl⟩
  have lA : (rdAt r.ps).length = N := by simp [rdAt, hN]
  have lV : (rdV r.ps).length = N := by simp [rdV, hN]
  have HN := hid hN
  obtain ⟨ab, cb, rfl⟩ := S1.written 1 rfl (n := r.b.length) rfl
  obtain ⟨L, hL⟩ : ∃ L, r.b.length = L := ⟨_, rfl⟩
  rw [hL] at S1
  have HL := hid hL
  obtain ⟨a1, n1, rfl⟩ := S1.writtenG eIok 2 rfl lA
  obtain ⟨a2, n2, rfl⟩ := S1.written 3 rfl lV
  have HA1 := hid lA
  have HV1 := hid lV
  have c1 := S1.cell 0 rfl 1 rfl
  clear hN lA lV hL hok
  go_enter Try.func32, Try.ntmps32
  go_wp2_with fail
  go_loopw [4] (fun q wr => ∃ k : Nat, k ≤ N ∧ (k : Int) ≤ max 0 keep ∧ q = .int .i64 k ∧ St w0 wr (cellsT g 88 [.slice ab L cb, .slice a1 N n1, .slice a2 N n2, .int .i64 (r.syncs : Int)] :: bytesT (.slice ab L cb) (rdSet r.b (r.ps.take k)) :: ownT eI (.slice a1 N n1) (rdAt r.ps) :: bytesT (.slice a2 N n2) (rdV r.ps) :: tl)) (fun q _ => N - (intOf q).toNat)
  case atStart => exact ⟨0, Nat.zero_le _, by omega, rfl, S1⟩
  case round =>
    obtain ⟨k, hk, hkk, rfl, Sk⟩ := hrel
    have c1 := Sk.cell 0 rfl 1 rfl
    have fin : ∀ w2 : World, St w0 w2 (cellsT g 88 [.slice ab L cb, .slice none 0 0, .slice none 0 0, .int .i64 (r.syncs : Int)] :: bytesT (.slice ab L cb) (rdSet r.b (r.ps.take k)) :: ownT eI (.slice a1 N n1) (rdAt r.ps) :: bytesT (.slice a2 N n2) (rdV r.ps) :: tl) → (r.ps.take k = r.ps.take keep.toNat) → St w0 w2 (rdT (.pointer (some ⟨g, 0, none⟩)) (r.crash keep) :: tl) := by
      intro w2 S2 e
      have S3 := ((S2.front 2 rfl).tail.front 2 rfl).tail
      have S4 := (S3.nil.rot.nilG eI).rot
      have S5 := (S4.front 3 rfl).front 3 rfl
      rw [e] at S5
      exact St.rdShut (r := r.crash keep) S5 ⟨fun q hq => by simp [RD.crash] at hq, by show (rdSet r.b (r.ps.take keep.toNat)).length ≤ _; rw [rdSet_len]; exact HOk.out.big⟩
    have Fin := hid fin
    clear fin
    by_cases hlt : k < N
    · have g1 : decide (k < N) = true := decide_eq_true hlt
      by_cases hkp : (k : Int) < keep
      · have hkps : k < r.ps.length := by rw [HN.out]; exact hlt
        obtain ⟨q1, q2, q3, q4, q5⟩ := Sk.slG eIok 2 rfl
        obtain ⟨y1, y2, y3, y4, y5⟩ := Sk.slA 3 rfl
        have i1 := fun wx => idxI a1 N n1 (fun h => q5.ok (by omega)) k k rfl hlt wx
        have i2 := fun wx => idx_at a2 N n2 (fun h => y5.ok (by omega)) k k rfl hlt wx
        have hfit := HOk.out.fit _ (List.getElem_mem hkps)
        have hkA : k < (rdAt r.ps).length := by omega
        have hkV : k < (rdV r.ps).length := by omega
        have x1 := q5.cellI hkA
        have x2 := y5.cell hkV
        rw [show (rdAt r.ps)[k] = (r.ps[k].1 : Int) by simp [rdAt]] at x1
        rw [show (rdV r.ps)[k] = r.ps[k].2 by simp [rdV]] at x2
        have HT := hid (rdSet_take r.b r.ps k hkps)
        rw [HL.out] at hfit
        generalize r.ps[k] = q at *
        obtain ⟨gb, cb', eb, _⟩ := (Sk.ownAt 1 rfl).form (by rw [rdSet_len, HL.out]; omega)
        have eb2 : ab = some ⟨gb, 0, none⟩ := by injection eb
        subst eb2
        have i3 := fun wx => idx_own gb L cb q.1 (q.1 : Int) rfl hfit wx
        have c0 := Sk.cell 0 rfl 0 rfl
        have c2 := Sk.cell 0 rfl 2 rfl
        have hown := Sk.ownAt 1 rfl
        have x3 := hown.cellAt (by rw [rdSet_len]; exact HL.out) q.1 (by rw [rdSet_len, HL.out]; exact hfit)
        have f3 := hown.frz (by rw [rdSet_len]; exact HL.out) q.1
        have S5 := (Sk.drew).setByte 1 rfl (k := q.1) q.2
        rw [bv_def] at x3 S5
        clear q1 q2 q3 q4 q5 y1 y2 y3 y4 y5 eb hown
        generalize q.2 = x at *
        generalize q.1 = pos at *
        go_wp2_with fail
        go_region_law (fail)
        all_goals (
          go_wp2
          go_roundw
          case rel => exact ⟨k + 1, by omega, by omega, by go_num, St.conv S5 (by rw [HT.out]; rfl)⟩
          case measure => simp [intOf]; omega)
      · have g2 : decide ((k : Int) < keep) = false := decide_eq_false hkp
        have c2 := Sk.cell 0 rfl 2 rfl
        have cf1 := Sk.frozen 0 rfl 1
        have cf2 := Sk.frozen 0 rfl 2
        go_wp2
        refine bodyPost_end (results_none rfl _ _ _) rfl ⟨rfl, Fin.out _ ((Sk.setCell 0 rfl 1 (.slice none 0 0)).setCell 0 rfl 2 (.slice none 0 0)) ?_⟩
        rw [show k = keep.toNat by omega]
    · have c2 := Sk.cell 0 rfl 2 rfl
      have cf1 := Sk.frozen 0 rfl 1
      have cf2 := Sk.frozen 0 rfl 2
      go_wp2
      refine bodyPost_end (results_none rfl _ _ _) rfl ⟨rfl, Fin.out _ ((Sk.setCell 0 rfl 1 (.slice none 0 0)).setCell 0 rfl 2 (.slice none 0 0)) ?_⟩
      have := HN.out
      rw [List.take_of_length_le (by omega), List.take_of_length_le (by omega)]

theorem rdsync_any (S : St w0 w (rdT p r :: tl)) (hps : r.ps.length ≤ 100000000) (hs : r.syncs < 1000000000) :
    Calls Try.prog 31 #[p] w fun e w' => e = .returned (.tuple #[]) ∧ St w0 w' (rdT p r.sync :: tl) := by
  obtain ⟨hok, g, vb, va, vv, rfl, S1⟩ := S.rdOpen
  have lA : (rdAt r.ps).length = r.ps.length := by simp [rdAt]
  obtain ⟨a1, n1, rfl⟩ := S1.writtenG eIok 2 rfl lA
  have c1 := S1.cell 0 rfl 1 rfl
  clear lA hok
  go_enter Try.func31, Try.ntmps31
  go_wp2_with fail
  refine (rdcrash_any S r.ps.length hps).mono ?_
  rintro e w1 ⟨rfl, S2⟩
  clear c1
  obtain ⟨hok, g', vb', va', vv', ep, S3⟩ := S2.rdOpen
  have hg : g = g' := by injection ep with h; injection h with h; injection h
  subst hg
  have c3 : w1.cell? ⟨g, 3, none⟩ = some (.int .i64 (r.syncs : Int)) := S3.cell 0 rfl 3 rfl
  have f3 := S3.frozen 0 rfl 3
  go_wp2
  refine bodyPost_end (results_none rfl _ _ _) rfl ⟨rfl, ?_⟩
  have S4 := S3.setCell 0 rfl 3 (.int .i64 ((r.syncs : Int) + 1))
  have e : r.sync = ⟨(r.crash r.ps.length).b, [], r.syncs + 1⟩ := by unfold RD.sync RD.crash; simp
  rw [e]
  exact St.rdShut (r := ⟨(r.crash r.ps.length).b, [], r.syncs + 1⟩) S4 ⟨fun q hq => by simp at hq, hok.big⟩

set_option maxRecDepth 10000 in
set_option maxHeartbeats 1600000 in
theorem rdbytes_any (S : St w0 w (rdT p r :: tl)) (n : Nat) (hn : r.b.length = n) (hps : r.ps.length ≤ 100000000) :
    Calls Try.prog 36 #[p] w fun e w' => ∃ a c, e = .returned (.slice a n c) ∧ St w0 w' (bytesT (.slice a n c) r.bytes :: rdT p r :: tl) ∧ Below w.heap.size w w' := by
  obtain ⟨hok, g, vb, va, vv, rfl, S1⟩ := S.rdOpen
  have HOk := hid hok
  have HX : Hid (#[].toList = ([] : List UInt8).map bv) := rfl
  obtain ⟨N, hN⟩ : ∃ N, r.ps.length = N := ⟨_, rfl⟩
  have lA : (rdAt r.ps).length = N := by simp [rdAt, hN]
  have lV : (rdV r.ps).length = N := by simp [rdV, hN]
  have HN := hid hN
  obtain ⟨ab, cb, rfl⟩ := S1.written 1 rfl hn
  have HL := hid hn
  obtain ⟨a1, n1, rfl⟩ := S1.writtenG eIok 2 rfl lA
  obtain ⟨a2, n2, rfl⟩ := S1.written 3 rfl lV
  have hbg := hok.big
  have c0 := S1.cell 0 rfl 0 rfl
  have ca : ∀ o : Obj, (w.alloc o).cell? ⟨g, 0, none⟩ = _ := fun o => (S1.alloc o).cell 0 rfl 0 rfl
  have HA1 := hid lA
  have HV1 := hid lV
  clear hN lA lV hok hn
  go_enter Try.func36, Try.ntmps36
  go_wp2_with (at_builtin; refine wpList_app (by rfl) (.tmp 5) (.tmp 9) 32 32 32 rfl rfl _ _ rfl rfl (run_both ((S1.bytes (own_new w w.heap.size [] _ 0 rfl HX.out (by unfold maxLen; simp) (Nat.le_refl _)) ((Below.refl _ _).alloc (Nat.le_refl _) _)).rot.app 0 rfl ab r.b n cb HL.out (by exact (S1.alloc _).at 1 rfl) n (by simp) (by have := HL.out; omega))
    (((St.start w).bytes (own_new w w.heap.size [] _ 0 rfl HX.out (by unfold maxLen; simp) (Nat.le_refl _)) ((Below.refl _ _).alloc (Nat.le_refl _) _)).app 0 rfl ab r.b n cb HL.out (by exact (S1.alloc _).at 1 rfl) n (by simp) (by have := HL.out; omega))) ?_; rintro v2 w2 ⟨⟨⟨ao, co, rfl⟩, S2⟩, -, T2⟩)
  rw [List.nil_append] at S2 T2
  clear c0 ca
  go_loopw [4] (fun q wr => ∃ k : Nat, k ≤ N ∧ q = .int .i64 k ∧ St w0 wr (bytesT (.slice ao n co) (rdSet r.b (r.ps.take k)) :: cellsT g 88 [.slice ab n cb, .slice a1 N n1, .slice a2 N n2, .int .i64 (r.syncs : Int)] :: bytesT (.slice ab n cb) r.b :: ownT eI (.slice a1 N n1) (rdAt r.ps) :: bytesT (.slice a2 N n2) (rdV r.ps) :: tl) ∧ St w wr [bytesT (.slice ao n co) (rdSet r.b (r.ps.take k))]) (fun q _ => N - (intOf q).toNat)
  case atStart => exact ⟨0, Nat.zero_le _, rfl, S2, T2⟩
  case round =>
    obtain ⟨k, hk, rfl, Sk, Tk⟩ := hrel
    have c1 := Sk.cell 1 rfl 1 rfl
    by_cases hlt : k < N
    · have g1 : decide (k < N) = true := decide_eq_true hlt
      have hkps : k < r.ps.length := by rw [HN.out]; exact hlt
      obtain ⟨q1, q2, q3, q4, q5⟩ := Sk.slG eIok 3 rfl
      obtain ⟨y1, y2, y3, y4, y5⟩ := Sk.slA 4 rfl
      have i1 := fun wx => idxI a1 N n1 (fun h => q5.ok (by omega)) k k rfl hlt wx
      have i2 := fun wx => idx_at a2 N n2 (fun h => y5.ok (by omega)) k k rfl hlt wx
      have hfit := HOk.out.fit _ (List.getElem_mem hkps)
      have hkA : k < (rdAt r.ps).length := by omega
      have hkV : k < (rdV r.ps).length := by omega
      have x1 := q5.cellI hkA
      have x2 := y5.cell hkV
      rw [show (rdAt r.ps)[k] = (r.ps[k].1 : Int) by simp [rdAt]] at x1
      rw [show (rdV r.ps)[k] = r.ps[k].2 by simp [rdV]] at x2
      have HT := hid (rdSet_take r.b r.ps k hkps)
      rw [HL.out] at hfit
      generalize r.ps[k] = q at *
      obtain ⟨gb, cb', eb, _⟩ := (Sk.ownAt 0 rfl).form (by rw [rdSet_len, HL.out]; omega)
      have eb2 : ao = some ⟨gb, 0, none⟩ := by injection eb
      subst eb2
      have i3 := fun wx => idx_own gb n co q.1 (q.1 : Int) rfl hfit wx
      have c2 := Sk.cell 1 rfl 2 rfl
      have hown := Sk.ownAt 0 rfl
      have x3 := hown.cellAt (by rw [rdSet_len]; exact HL.out) q.1 (by rw [rdSet_len, HL.out]; exact hfit)
      have f3 := hown.frz (by rw [rdSet_len]; exact HL.out) q.1
      have S5 := (Sk.drew).setByte 0 rfl (k := q.1) q.2
      have T5 := (Tk.drew).setByte 0 rfl (k := q.1) q.2
      rw [bv_def] at x3 S5 T5
      clear q1 q2 q3 q4 q5 y1 y2 y3 y4 y5 eb hown
      generalize q.2 = x at *
      generalize q.1 = pos at *
      go_wp2_with fail
      go_region_law (fail)
      all_goals (
        go_wp2
        go_roundw
        case rel => exact ⟨k + 1, by omega, by go_num, St.conv S5 (by rw [HT.out]; rfl), St.conv T5 (by rw [HT.out]; rfl)⟩
        case measure => simp [intOf]; omega)
    · have ek : Hid (r.ps.take k = r.ps) := by rw [Hid]; have := HN.out; exact List.take_of_length_le (by omega)
      go_wp2
      go_ret
      refine ⟨_, _, rfl, ?_⟩
      rw [ek.out] at Sk
      have S6 := (((Sk.front 4 rfl).front 4 rfl).front 4 rfl).front 4 rfl
      exact ⟨(St.rdShut (r := r) S6 HOk.out).swap, Tk.fin⟩
end

end Go.Proofs.Ytkkailggpfmgaaa
