/- The document's agent: Take, what is saved, what isn't taken; the whole. -/
import Derived.Test.YtchehnkmmmnonaaAgentRef2
import Derived.Deep.CutRange
namespace Go.Proofs.Ytchehnkmmmnonaa
set_option linter.unusedVariables false
set_option linter.unusedSimpArgs false
open Go.RowKit
theorem St.neqAg {w0 w : World} {l : List Thing} (S : St w0 w l) (i j : Nat) (hij : i ≠ j) {g h : Nat} {T U : TypeId} {cs ds : List Value} (hi : l[i]? = some (cellsT g T cs)) (hj : l[j]? = some (cellsT h U ds)) : ¬ g = h := by
  obtain ⟨_, F, h2, h3⟩ := S
  have x := h2 i _ hi
  have y := h2 j _ hj
  intro e
  subst e
  exact h3 i j g (List.getElem?_eq_some_iff.1 hi).1 (List.getElem?_eq_some_iff.1 hj).1 hij ((x.2.2 g).2 rfl) ((y.2.2 g).2 rfl)
theorem St.setAg {w0 w : World} {l : List Thing} {g : Nat} {T : TypeId} {a b : AG} (S : St w0 w (cellsT g T a.cs :: l)) :
    St w0 ((((((((((w.setCell ⟨g, 0, none⟩ (.bool b.up)).setCell ⟨g, 1, none⟩ (.int .i64 b.term)).setCell ⟨g, 2, none⟩ (.int .i64 b.gen)).setCell ⟨g, 3, none⟩ (.int .i64 b.mode)).setCell ⟨g, 4, none⟩ (.int .i64 b.job)).setCell ⟨g, 5, none⟩ (.int .i64 b.inc)).setCell ⟨g, 6, none⟩ (.int .i64 b.version)).setCell ⟨g, 7, none⟩ (.int .i64 b.lease)).setCell ⟨g, 8, none⟩ (.int .i64 b.worked)).setCell ⟨g, 9, none⟩ (.int .i64 b.to_)) (cellsT g T b.cs :: l) :=
  (((((((((S.setCell 0 rfl 0 (.bool b.up)).setCell 0 rfl 1 (.int .i64 b.term)).setCell 0 rfl 2 (.int .i64 b.gen)).setCell 0 rfl 3 (.int .i64 b.mode)).setCell 0 rfl 4 (.int .i64 b.job)).setCell 0 rfl 5 (.int .i64 b.inc)).setCell 0 rfl 6 (.int .i64 b.version)).setCell 0 rfl 7 (.int .i64 b.lease)).setCell 0 rfl 8 (.int .i64 b.worked)).setCell 0 rfl 9 (.int .i64 b.to_)
section
variable {w0 w : World} {tl : List Thing} {h : Nat} {q : QS}
set_option maxRecDepth 10000 in
set_option maxHeartbeats 25600000 in
theorem rTake_yes (S : St w0 w (rstT h q :: tl)) (hq : q.L.length ≤ 100000) (hw : q.writes ≤ 1000000) (a : AG) (m : Msg) (now : Int) (k1 : decide (m.kind < 1) = false) (k5 : decide (5 < m.kind) = false) (hT : decide (m.term < a.term) = false) (hG : ((m.term == a.term) = true ∧ decide (m.gen < a.gen) = false) ∨ (m.term == a.term) = false) (hk : m.kind = 1 ∨ m.kind = 2 ∨ m.kind = 3 ∨ m.kind = 4 ∨ m.kind = 5) :
    Calls Try.prog 10 #[.agg #[.bool true, .int .i64 a.term, .int .i64 a.gen, .int .i64 a.mode, .int .i64 a.job, .int .i64 a.inc, .int .i64 a.version, .int .i64 a.lease, .int .i64 a.worked, .int .i64 a.to_], .agg #[.int .i64 m.node, .int .i64 m.kind, .int .i64 m.term, .int .i64 m.gen, .int .i64 m.job, .int .i64 m.inc, .int .i64 m.version, .int .i64 m.epoch, .int .i64 m.until_, .int .i64 m.mode, .int .i64 m.work], .int .i64 now, .pointer (some ⟨h, 0, none⟩)] w fun e w' => e = .returned (.tuple #[(rOrder ({ a with up := true, term := m.term, gen := m.gen } : AG) m now q).1.v, .bool true]) ∧ St w0 w' (rstT h (rOrder ({ a with up := true, term := m.term, gen := m.gen } : AG) m now q).2 :: tl) := by
  obtain ⟨sb, hsb⟩ : ∃ sb, ((a.job == m.job) && (a.inc == m.inc)) = sb := ⟨_, rfl⟩
  obtain ⟨L, hL⟩ : ∃ L, max a.lease m.until_ = L := ⟨_, rfl⟩
  have HSb := hid hsb
  have HL := hid hL
  have HO : Hid (∀ k, ownsJ ({ a with up := true, term := m.term, gen := m.gen } : AG) m k = ((a.mode == k) && sb)) := fun k => by rw [← hsb]; rfl
  have HN : Hid (aRenew ({ a with up := true, term := m.term, gen := m.gen } : AG) m = { ({ a with up := true, term := m.term, gen := m.gen } : AG) with lease := L }) := by rw [Hid, ← hL]; rfl
  have HKk := hid hk
  clear hsb hL hk
  go_enter Try.func10, Try.ntmps10
  go_upto_region 1 with fail
  go_cut [46] from 13 to 45 (fun s46 wc => s46 = .bool false ∧ wc = (((w.alloc (.cells #[.bool true, .int .i64 a.term, .int .i64 a.gen, .int .i64 a.mode, .int .i64 a.job, .int .i64 a.inc, .int .i64 a.version, .int .i64 a.lease, .int .i64 a.worked, .int .i64 a.to_] 23)).alloc (.cells #[.int .i64 m.node, .int .i64 m.kind, .int .i64 m.term, .int .i64 m.gen, .int .i64 m.job, .int .i64 m.inc, .int .i64 m.version, .int .i64 m.epoch, .int .i64 m.until_, .int .i64 m.mode, .int .i64 m.work] 25)).alloc (.cells #[.bool false, .int .i64 0, .int .i64 0, .int .i64 0, .int .i64 0, .int .i64 0, .int .i64 0, .int .i64 0, .int .i64 0, .int .i64 0] 23)))
  case first =>
    rcases hG with ⟨hG1, hG2⟩ | hG1
    all_goals
      go_wp2_with fail
      go_meet
      exact ⟨rfl, rfl⟩
  case rest =>
  obtain ⟨rfl, rfl⟩ := hcut
  clear hG hT k1 k5
  go_upto_region 5 with fail
  go_cut [10] from 13 to 65 (fun s10 wc => s10 = .bool sb ∧ wc = (((w.alloc (.cells #[.bool true, .int .i64 m.term, .int .i64 m.gen, .int .i64 a.mode, .int .i64 a.job, .int .i64 a.inc, .int .i64 a.version, .int .i64 a.lease, .int .i64 a.worked, .int .i64 a.to_] 23)).alloc (.cells #[.int .i64 m.node, .int .i64 m.kind, .int .i64 m.term, .int .i64 m.gen, .int .i64 m.job, .int .i64 m.inc, .int .i64 m.version, .int .i64 m.epoch, .int .i64 m.until_, .int .i64 m.mode, .int .i64 m.work] 25)).alloc (.cells #[.bool false, .int .i64 0, .int .i64 0, .int .i64 0, .int .i64 0, .int .i64 0, .int .i64 0, .int .i64 0, .int .i64 0, .int .i64 0] 23)))
  case first =>
    cases b1 : (a.job == m.job)
    · have E : sb = false := by rw [← HSb.out, b1]; rfl
      go_wp2_with fail
      go_meet
      exact ⟨by rw [E], rfl⟩
    · cases b2 : (a.inc == m.inc)
      · have E : sb = false := by rw [← HSb.out, b1, b2]; rfl
        go_wp2_with fail
        go_meet
        exact ⟨by rw [E], rfl⟩
      · have E : sb = true := by rw [← HSb.out, b1, b2]; rfl
        go_wp2_with fail
        go_meet
        exact ⟨by rw [E], rfl⟩
  case rest =>
  obtain ⟨rfl, rfl⟩ := hcut
  go_upto_if 71 with fail
  go_cut [] from 13 to 74 (fun wc => wc = (((w.alloc (.cells #[.bool true, .int .i64 m.term, .int .i64 m.gen, .int .i64 a.mode, .int .i64 a.job, .int .i64 a.inc, .int .i64 a.version, .int .i64 a.lease, .int .i64 a.worked, .int .i64 a.to_] 23)).alloc (.cells #[.int .i64 m.node, .int .i64 m.kind, .int .i64 m.term, .int .i64 m.gen, .int .i64 m.job, .int .i64 m.inc, .int .i64 m.version, .int .i64 m.epoch, .int .i64 m.until_, .int .i64 m.mode, .int .i64 m.work] 25)).alloc (.cells #[.bool false, .int .i64 0, .int .i64 0, .int .i64 0, .int .i64 0, .int .i64 0, .int .i64 0, .int .i64 0, .int .i64 0, .int .i64 0] 23)).alloc (.cells #[.bool true, .int .i64 m.term, .int .i64 m.gen, .int .i64 a.mode, .int .i64 a.job, .int .i64 a.inc, .int .i64 a.version, .int .i64 L, .int .i64 a.worked, .int .i64 a.to_] 23))
  case first =>
    cases bu : decide (a.lease < m.until_)
    · have E : L = a.lease := by rw [← HL.out]; have := of_decide_eq_false bu; omega
      go_wp2_with fail
      go_meet
      rw [E]
    · have E : L = m.until_ := by rw [← HL.out]; have := of_decide_eq_true bu; omega
      go_wp2_with fail
      go_meet
      rw [E]
  case rest =>
  obtain rfl := hcut
  clear HSb HL
  rcases HKk.out with hk | hk | hk | hk | hk
  · clear HKk
    have e1 : (m.kind == 1) = true := by rw [hk]; rfl
    have HK := hid hk
    clear hk
    cases m4 : (a.mode == 4)
    · have E : Hid (rOrder ({ a with up := true, term := m.term, gen := m.gen } : AG) m now q = (aLoose ({ a with up := true, term := m.term, gen := m.gen } : AG), q)) := by
        rw [Hid]; unfold rOrder oRest; rw [if_pos HK.out, if_neg (show ¬ ({ a with up := true, term := m.term, gen := m.gen } : AG).mode = 4 from bf m4)]
      have g4 : (a.mode != 4) = true := by simp only [bne, m4]; rfl
      have S8 : St w0 (((w.alloc (.cells #[.bool true, .int .i64 m.term, .int .i64 m.gen, .int .i64 a.mode, .int .i64 a.job, .int .i64 a.inc, .int .i64 a.version, .int .i64 a.lease, .int .i64 a.worked, .int .i64 a.to_] 23)).alloc (.cells #[.int .i64 m.node, .int .i64 m.kind, .int .i64 m.term, .int .i64 m.gen, .int .i64 m.job, .int .i64 m.inc, .int .i64 m.version, .int .i64 m.epoch, .int .i64 m.until_, .int .i64 m.mode, .int .i64 m.work] 25)).alloc (.cells #[.bool false, .int .i64 0, .int .i64 0, .int .i64 0, .int .i64 0, .int .i64 0, .int .i64 0, .int .i64 0, .int .i64 0, .int .i64 0] 23)) (cellsT (w.heap.size + 1 + 1) 23 AG.zero.cs :: rstT h q :: tl) := St.rot (newAtG ((S.alloc _).alloc _) 23 #[.bool false, .int .i64 0, .int .i64 0, .int .i64 0, .int .i64 0, .int .i64 0, .int .i64 0, .int .i64 0, .int .i64 0, .int .i64 0] (w.heap.size + 1 + 1) (by simp only [alloc_size]))
      have S9 := S8.alloc (.cells #[.bool true, .int .i64 m.term, .int .i64 m.gen, .int .i64 a.mode, .int .i64 a.job, .int .i64 a.inc, .int .i64 a.version, .int .i64 L, .int .i64 a.worked, .int .i64 a.to_] 23)
      clear S8 m4
      go_wp2_with fail
      generalize w.heap.size + 1 + 1 = g8 at *
      refine (agrLoose ({ a with up := true, term := m.term, gen := m.gen } : AG) _).mono ?_
      rintro e w5 ⟨rfl, hb5⟩
      have S10 := S9.grow hb5
      obtain ⟨b, hb⟩ : ∃ b, aLoose ({ a with up := true, term := m.term, gen := m.gen } : AG) = b := ⟨_, rfl⟩
      rw [hb] at E ⊢
      clear hb S9 hb5
      unfold AG.v
      have SX := S10.setRow 0 rfl b.cs.toArray
      have hst : (storeCells ⟨g8, 0, none⟩ b.cs).run Try.prog w5 = .ok () (w5.setRow g8 b.cs.toArray) := agStore _ _ AG.zero b (S10.heap 0 rfl)
      go_wp2
      exact bodyPost_ret (res_agB rfl _ _ g8 _ _ rfl (by exact SX.heap 0 rfl) rfl rfl) rfl ⟨by rw [E.out]; rfl, by rw [E.out]; exact SX.tail⟩
    · have E : Hid (rOrder ({ a with up := true, term := m.term, gen := m.gen } : AG) m now q = (({ a with up := true, term := m.term, gen := m.gen } : AG), q)) := by
        rw [Hid]; unfold rOrder oRest; rw [if_pos HK.out, if_pos (show ({ a with up := true, term := m.term, gen := m.gen } : AG).mode = 4 from bt m4)]
      have g4 : (a.mode != 4) = false := by simp only [bne, m4]; rfl
      go_wp2
      all_goals exact bodyPost_ret (res_agB rfl _ _ (w.heap.size + 1 + 1) _ _ rfl (heap34 _ _ _ _ _ _) rfl rfl) rfl ⟨by rw [E.out]; rfl, by rw [E.out]; exact (((S.alloc _).alloc _).alloc _).alloc _⟩
  · clear HKk
    have e1 : (m.kind == 1) = false := by rw [hk]; rfl
    have e2 : (m.kind == 2) = true := by rw [hk]; rfl
    have HK := hid hk
    clear hk
    cases sb
    · cases m0 : (a.mode == 0)
      · have E := hid (rO2_no (b := ({ a with up := true, term := m.term, gen := m.gen } : AG)) (now := now) (q := q) HK.out (by rw [HO.out 1, Bool.and_false]) (by rw [HO.out 2, Bool.and_false]) (fun c => bf m0 c.1))
        go_wp2
        all_goals exact bodyPost_ret (res_agB rfl _ _ (w.heap.size + 1 + 1) _ _ rfl (heap34 _ _ _ _ _ _) rfl rfl) rfl ⟨by rw [E.out]; rfl, by rw [E.out]; exact (((S.alloc _).alloc _).alloc _).alloc _⟩
      · cases v : (a.version == m.version)
        · have E := hid (rO2_no (b := ({ a with up := true, term := m.term, gen := m.gen } : AG)) (now := now) (q := q) HK.out (by rw [HO.out 1, Bool.and_false]) (by rw [HO.out 2, Bool.and_false]) (fun c => bf v c.2.1))
          go_wp2
          all_goals exact bodyPost_ret (res_agB rfl _ _ (w.heap.size + 1 + 1) _ _ rfl (heap34 _ _ _ _ _ _) rfl rfl) rfl ⟨by rw [E.out]; rfl, by rw [E.out]; exact (((S.alloc _).alloc _).alloc _).alloc _⟩
        · cases u : decide (now < m.until_)
          · have E := hid (rO2_no (b := ({ a with up := true, term := m.term, gen := m.gen } : AG)) (now := now) (q := q) HK.out (by rw [HO.out 1, Bool.and_false]) (by rw [HO.out 2, Bool.and_false]) (fun c => of_decide_eq_false u c.2.2))
            go_wp2
            all_goals exact bodyPost_ret (res_agB rfl _ _ (w.heap.size + 1 + 1) _ _ rfl (heap34 _ _ _ _ _ _) rfl rfl) rfl ⟨by rw [E.out]; rfl, by rw [E.out]; exact (((S.alloc _).alloc _).alloc _).alloc _⟩
          · have E := hid (rO2_set (b := ({ a with up := true, term := m.term, gen := m.gen } : AG)) (now := now) (q := q) HK.out (by rw [HO.out 1, Bool.and_false]) (by rw [HO.out 2, Bool.and_false]) ⟨bt m0, bt v, of_decide_eq_true u⟩)
            go_wp2
            all_goals exact bodyPost_ret (res_agB rfl _ _ (w.heap.size + 1 + 1) _ _ rfl (heap34 _ _ _ _ _ _) rfl rfl) rfl ⟨by rw [E.out]; rfl, by rw [E.out]; exact (((S.alloc _).alloc _).alloc _).alloc _⟩
    · cases m1 : (a.mode == 1)
      · cases m2 : (a.mode == 2)
        · cases m0 : (a.mode == 0)
          · have E := hid (rO2_no (b := ({ a with up := true, term := m.term, gen := m.gen } : AG)) (now := now) (q := q) HK.out (by rw [HO.out 1, m1]; rfl) (by rw [HO.out 2, m2]; rfl) (fun c => bf m0 c.1))
            go_wp2
            all_goals exact bodyPost_ret (res_agB rfl _ _ (w.heap.size + 1 + 1) _ _ rfl (heap34 _ _ _ _ _ _) rfl rfl) rfl ⟨by rw [E.out]; rfl, by rw [E.out]; exact (((S.alloc _).alloc _).alloc _).alloc _⟩
          · cases v : (a.version == m.version)
            · have E := hid (rO2_no (b := ({ a with up := true, term := m.term, gen := m.gen } : AG)) (now := now) (q := q) HK.out (by rw [HO.out 1, m1]; rfl) (by rw [HO.out 2, m2]; rfl) (fun c => bf v c.2.1))
              go_wp2
              all_goals exact bodyPost_ret (res_agB rfl _ _ (w.heap.size + 1 + 1) _ _ rfl (heap34 _ _ _ _ _ _) rfl rfl) rfl ⟨by rw [E.out]; rfl, by rw [E.out]; exact (((S.alloc _).alloc _).alloc _).alloc _⟩
            · cases u : decide (now < m.until_)
              · have E := hid (rO2_no (b := ({ a with up := true, term := m.term, gen := m.gen } : AG)) (now := now) (q := q) HK.out (by rw [HO.out 1, m1]; rfl) (by rw [HO.out 2, m2]; rfl) (fun c => of_decide_eq_false u c.2.2))
                go_wp2
                all_goals exact bodyPost_ret (res_agB rfl _ _ (w.heap.size + 1 + 1) _ _ rfl (heap34 _ _ _ _ _ _) rfl rfl) rfl ⟨by rw [E.out]; rfl, by rw [E.out]; exact (((S.alloc _).alloc _).alloc _).alloc _⟩
              · have E := hid (rO2_set (b := ({ a with up := true, term := m.term, gen := m.gen } : AG)) (now := now) (q := q) HK.out (by rw [HO.out 1, m1]; rfl) (by rw [HO.out 2, m2]; rfl) ⟨bt m0, bt v, of_decide_eq_true u⟩)
                go_wp2
                all_goals exact bodyPost_ret (res_agB rfl _ _ (w.heap.size + 1 + 1) _ _ rfl (heap34 _ _ _ _ _ _) rfl rfl) rfl ⟨by rw [E.out]; rfl, by rw [E.out]; exact (((S.alloc _).alloc _).alloc _).alloc _⟩
        · have E : Hid (rOrder ({ a with up := true, term := m.term, gen := m.gen } : AG) m now q = (({ ({ a with up := true, term := m.term, gen := m.gen } : AG) with lease := L } : AG), q)) := by rw [Hid, rO2_own (b := ({ a with up := true, term := m.term, gen := m.gen } : AG)) (now := now) (q := q) HK.out (.inr (by rw [HO.out 2, m2]; rfl)), HN.out]
          go_wp2
          all_goals exact bodyPost_ret (res_agB rfl _ _ (w.heap.size + 1 + 1) _ _ rfl (heap34 _ _ _ _ _ _) rfl rfl) rfl ⟨by rw [E.out]; rfl, by rw [E.out]; exact (((S.alloc _).alloc _).alloc _).alloc _⟩
      · have E : Hid (rOrder ({ a with up := true, term := m.term, gen := m.gen } : AG) m now q = (({ ({ a with up := true, term := m.term, gen := m.gen } : AG) with lease := L } : AG), q)) := by rw [Hid, rO2_own (b := ({ a with up := true, term := m.term, gen := m.gen } : AG)) (now := now) (q := q) HK.out (.inl (by rw [HO.out 1, m1]; rfl)), HN.out]
        go_wp2
        all_goals exact bodyPost_ret (res_agB rfl _ _ (w.heap.size + 1 + 1) _ _ rfl (heap34 _ _ _ _ _ _) rfl rfl) rfl ⟨by rw [E.out]; rfl, by rw [E.out]; exact (((S.alloc _).alloc _).alloc _).alloc _⟩
  · clear HKk
    have e1 : (m.kind == 1) = false := by rw [hk]; rfl
    have e2 : (m.kind == 2) = false := by rw [hk]; rfl
    have e3 : (m.kind == 3) = true := by rw [hk]; rfl
    have HK := hid hk
    clear hk
    cases sb
    · have E := hid (rO3_no (b := ({ a with up := true, term := m.term, gen := m.gen } : AG)) (now := now) (q := q) HK.out (by rw [HO.out 1, Bool.and_false]) (by rw [HO.out 2, Bool.and_false]))
      go_wp2
      all_goals exact bodyPost_ret (res_agB rfl _ _ (w.heap.size + 1 + 1) _ _ rfl (heap34 _ _ _ _ _ _) rfl rfl) rfl ⟨by rw [E.out]; rfl, by rw [E.out]; exact (((S.alloc _).alloc _).alloc _).alloc _⟩
    · cases m2 : (a.mode == 2)
      · cases m1 : (a.mode == 1)
        · have E := hid (rO3_no (b := ({ a with up := true, term := m.term, gen := m.gen } : AG)) (now := now) (q := q) HK.out (by rw [HO.out 1, m1]; rfl) (by rw [HO.out 2, m2]; rfl))
          go_wp2
          all_goals exact bodyPost_ret (res_agB rfl _ _ (w.heap.size + 1 + 1) _ _ rfl (heap34 _ _ _ _ _ _) rfl rfl) rfl ⟨by rw [E.out]; rfl, by rw [E.out]; exact (((S.alloc _).alloc _).alloc _).alloc _⟩
        · have E := hid (rO3_set (b := ({ a with up := true, term := m.term, gen := m.gen } : AG)) (now := now) (q := q) HK.out (by rw [HO.out 1, m1]; rfl) (by rw [HO.out 2, m2]; rfl))
          go_wp2
          all_goals exact bodyPost_ret (res_agB rfl _ _ (w.heap.size + 1 + 1) _ _ rfl (heap34 _ _ _ _ _ _) rfl rfl) rfl ⟨by rw [E.out]; rfl, by rw [E.out]; exact (((S.alloc _).alloc _).alloc _).alloc _⟩
      · have E : Hid (rOrder ({ a with up := true, term := m.term, gen := m.gen } : AG) m now q = (({ ({ a with up := true, term := m.term, gen := m.gen } : AG) with lease := L } : AG), q)) := by rw [Hid, rO3_own (b := ({ a with up := true, term := m.term, gen := m.gen } : AG)) (now := now) (q := q) HK.out (by rw [HO.out 2, m2]; rfl), HN.out]
        go_wp2
        all_goals exact bodyPost_ret (res_agB rfl _ _ (w.heap.size + 1 + 1) _ _ rfl (heap34 _ _ _ _ _ _) rfl rfl) rfl ⟨by rw [E.out]; rfl, by rw [E.out]; exact (((S.alloc _).alloc _).alloc _).alloc _⟩
  · clear HKk
    have e1 : (m.kind == 1) = false := by rw [hk]; rfl
    have e2 : (m.kind == 2) = false := by rw [hk]; rfl
    have e3 : (m.kind == 3) = false := by rw [hk]; rfl
    have e4 : (m.kind == 4) = true := by rw [hk]; rfl
    have HK := hid hk
    clear hk
    cases sb
    · have E := hid (rO4_no (b := ({ a with up := true, term := m.term, gen := m.gen } : AG)) (now := now) (q := q) HK.out (fun c => by rw [HO.out 2, Bool.and_false] at c; cases c.1))
      go_wp2
      all_goals exact bodyPost_ret (res_agB rfl _ _ (w.heap.size + 1 + 1) _ _ rfl (heap34 _ _ _ _ _ _) rfl rfl) rfl ⟨by rw [E.out]; rfl, by rw [E.out]; exact (((S.alloc _).alloc _).alloc _).alloc _⟩
    · cases m2 : (a.mode == 2)
      · have E := hid (rO4_no (b := ({ a with up := true, term := m.term, gen := m.gen } : AG)) (now := now) (q := q) HK.out (fun c => by rw [HO.out 2, m2] at c; cases c.1))
        go_wp2
        all_goals exact bodyPost_ret (res_agB rfl _ _ (w.heap.size + 1 + 1) _ _ rfl (heap34 _ _ _ _ _ _) rfl rfl) rfl ⟨by rw [E.out]; rfl, by rw [E.out]; exact (((S.alloc _).alloc _).alloc _).alloc _⟩
      · cases u : decide (now < a.lease)
        · have E := hid (rO4_no (b := ({ a with up := true, term := m.term, gen := m.gen } : AG)) (now := now) (q := q) HK.out (fun c => of_decide_eq_false u c.2))
          go_wp2
          all_goals exact bodyPost_ret (res_agB rfl _ _ (w.heap.size + 1 + 1) _ _ rfl (heap34 _ _ _ _ _ _) rfl rfl) rfl ⟨by rw [E.out]; rfl, by rw [E.out]; exact (((S.alloc _).alloc _).alloc _).alloc _⟩
        · cases w1 : (m.mode == 1)
          · have E := hid (rO4_kept (b := ({ a with up := true, term := m.term, gen := m.gen } : AG)) (now := now) (q := q) HK.out ⟨(by rw [HO.out 2, m2]; rfl), of_decide_eq_true u⟩ (bf w1))
            go_wp2
            all_goals exact bodyPost_ret (res_agB rfl _ _ (w.heap.size + 1 + 1) _ _ rfl (heap34 _ _ _ _ _ _) rfl rfl) rfl ⟨by rw [E.out]; rfl, by rw [E.out]; exact (((S.alloc _).alloc _).alloc _).alloc _⟩
          · obtain ⟨r, hr⟩ : ∃ r, qStage q m.term a.job a.inc (ckData a.worked) = r := ⟨_, rfl⟩
            have E : Hid (rOrder ({ a with up := true, term := m.term, gen := m.gen } : AG) m now q = (if r.1 = 0 then ({ ({ a with up := true, term := m.term, gen := m.gen } : AG) with mode := 3 } : AG) else ({ a with up := true, term := m.term, gen := m.gen } : AG), r.2)) := rO4_save (b := ({ a with up := true, term := m.term, gen := m.gen } : AG)) HK.out ⟨(by rw [HO.out 2, m2]; rfl), of_decide_eq_true u⟩ (bt w1) hr
            have HR := hid hr
            obtain ⟨k5', hk5⟩ : ∃ k, (codeNum a.worked).length = k := ⟨_, rfl⟩
            obtain ⟨k6, hk6⟩ : ∃ k, (ckData a.worked).length = k := ⟨_, rfl⟩
            have b5 : k5' ≤ 8 := hk5 ▸ codeNum_len _
            have b6 : k6 ≤ 16 := hk6 ▸ ckData_len _
            have HK5 := hid hk5
            have HK6 := hid hk6
            clear hr hk5 hk6
            have S3 : St w0 (((w.alloc (.cells #[.bool true, .int .i64 m.term, .int .i64 m.gen, .int .i64 a.mode, .int .i64 a.job, .int .i64 a.inc, .int .i64 a.version, .int .i64 a.lease, .int .i64 a.worked, .int .i64 a.to_] 23)).alloc (.cells #[.int .i64 m.node, .int .i64 m.kind, .int .i64 m.term, .int .i64 m.gen, .int .i64 m.job, .int .i64 m.inc, .int .i64 m.version, .int .i64 m.epoch, .int .i64 m.until_, .int .i64 m.mode, .int .i64 m.work] 25)).alloc (.cells #[.bool false, .int .i64 0, .int .i64 0, .int .i64 0, .int .i64 0, .int .i64 0, .int .i64 0, .int .i64 0, .int .i64 0, .int .i64 0] 23)) (cellsT (w.heap.size + 1 + 1) 23 AG.zero.cs :: cellsT (w.heap.size + 1) 25 m.cs :: cellsT w.heap.size 23 (#[.bool true, .int .i64 m.term, .int .i64 m.gen, .int .i64 a.mode, .int .i64 a.job, .int .i64 a.inc, .int .i64 a.version, .int .i64 a.lease, .int .i64 a.worked, .int .i64 a.to_] : Array Value).toList :: rstT h q :: tl) := (newAtG (newAtG (newAtG S 23 #[.bool true, .int .i64 m.term, .int .i64 m.gen, .int .i64 a.mode, .int .i64 a.job, .int .i64 a.inc, .int .i64 a.version, .int .i64 a.lease, .int .i64 a.worked, .int .i64 a.to_] w.heap.size rfl).rot 25 #[.int .i64 m.node, .int .i64 m.kind, .int .i64 m.term, .int .i64 m.gen, .int .i64 m.job, .int .i64 m.inc, .int .i64 m.version, .int .i64 m.epoch, .int .i64 m.until_, .int .i64 m.mode, .int .i64 m.work] (w.heap.size + 1) (by simp only [alloc_size])).rot 23 #[.bool false, .int .i64 0, .int .i64 0, .int .i64 0, .int .i64 0, .int .i64 0, .int .i64 0, .int .i64 0, .int .i64 0, .int .i64 0] (w.heap.size + 1 + 1) (by simp only [alloc_size])).rot
            have S4 := S3.alloc (.cells #[.bool true, .int .i64 m.term, .int .i64 m.gen, .int .i64 a.mode, .int .i64 a.job, .int .i64 a.inc, .int .i64 a.version, .int .i64 L, .int .i64 a.worked, .int .i64 a.to_] 23)
            clear S3
            go_wp2_with fail
            generalize w.heap.size + 1 + 1 + 1 = g11 at *
            generalize w.heap.size + 1 + 1 = g8 at *
            generalize w.heap.size + 1 = g5 at *
            generalize w.heap.size = g4 at *
            generalize (((w.alloc _).alloc _).alloc _).alloc _ = w4 at *
            have keep : ∀ {w' : World} {l : List Thing}, St w0 w' (cellsT g8 23 AG.zero.cs :: cellsT g5 25 m.cs :: cellsT g4 23 (#[.bool true, .int .i64 m.term, .int .i64 m.gen, .int .i64 a.mode, .int .i64 a.job, .int .i64 a.inc, .int .i64 a.version, .int .i64 a.lease, .int .i64 a.worked, .int .i64 a.to_] : Array Value).toList :: l) → (w'.cell? ⟨g5, 2, none⟩ = some (.int .i64 m.term) ∧ w'.cell? ⟨g4, 4, none⟩ = some (.int .i64 a.job) ∧ w'.cell? ⟨g4, 5, none⟩ = some (.int .i64 a.inc) ∧ w'.cell? ⟨g4, 8, none⟩ = some (.int .i64 a.worked)) := fun S => ⟨S.cell 1 rfl 2 rfl, S.cell 2 rfl 4 rfl, S.cell 2 rfl 5 rfl, S.cell 2 rfl 8 rfl⟩
            refine wp_region_held_drew (S := (fun w' => (w'.cell? ⟨g5, 2, none⟩ = some (.int .i64 m.term) ∧ w'.cell? ⟨g4, 4, none⟩ = some (.int .i64 a.job) ∧ w'.cell? ⟨g4, 5, none⟩ = some (.int .i64 a.inc) ∧ w'.cell? ⟨g4, 8, none⟩ = some (.int .i64 a.worked)))) (by kernel_rfl) (by exact keep S4.drew) (fun hHeld => ?_)
            change wpAnyH _ _ _ _ _ 14 (Array.replicate 14 false) _ _
            refine wpAnyH_take (i := 0) (v := ?v1) (ops_at rfl) (by kernel_rfl) (by kernel_rfl) (by kernel_rfl) (fun _ _ _ h => h) (Or.inl ⟨by rfl, ?hy1⟩) (by assumption) ?rest1
            case hy1 => intro w' hSw; (try dsimp only at hSw); go_simp; try with_reducible rfl
            try simp only [Act.put, List.setIfInBounds_toArray, List.set_cons_zero, List.set_cons_succ]
            refine wpAnyH_take (i := 1) (v := ?v2) (ops_at rfl) (by kernel_rfl) (by kernel_rfl) (by kernel_rfl) (fun _ _ _ h => h) (Or.inl ⟨by rfl, ?hy2⟩) (by assumption) ?rest2
            case hy2 => intro w' hSw; (try dsimp only at hSw); go_simp; try with_reducible rfl
            try simp only [Act.put, List.setIfInBounds_toArray, List.set_cons_zero, List.set_cons_succ]
            refine wpAnyH_take (i := 2) (v := ?v3) (ops_at rfl) (by kernel_rfl) (by kernel_rfl) (by kernel_rfl) (fun _ _ _ h => h) (Or.inl ⟨by rfl, ?hy3⟩) (by assumption) ?rest3
            case hy3 => intro w' hSw; (try dsimp only at hSw); go_simp; try with_reducible rfl
            try simp only [Act.put, List.setIfInBounds_toArray, List.set_cons_zero, List.set_cons_succ]
            refine wpAnyH_take (i := 3) (v := ?v4) (ops_at rfl) (by kernel_rfl) (by kernel_rfl) (by kernel_rfl) (fun _ _ _ h => h) (Or.inl ⟨by rfl, ?hy4⟩) (by assumption) ?rest4
            case hy4 => intro w' hSw; (try dsimp only at hSw); go_simp; try with_reducible rfl
            try simp only [Act.put, List.setIfInBounds_toArray, List.set_cons_zero, List.set_cons_succ]
            refine wpAnyH_take (i := 4) (v := ?v5) (ops_at rfl) (by kernel_rfl) (by kernel_rfl) (by kernel_rfl) (fun _ _ _ h => h) (Or.inl ⟨by rfl, ?hy5⟩) (by assumption) ?rest5
            case hy5 => intro w' hSw; (try dsimp only at hSw); go_simp; try with_reducible rfl
            try simp only [Act.put, List.setIfInBounds_toArray, List.set_cons_zero, List.set_cons_succ]
            refine wpAnyH_take (i := 5) (v := ?v6) (ops_at rfl) (by kernel_rfl) (by kernel_rfl) (by kernel_rfl) (fun _ _ _ h => h) (Or.inl ⟨by rfl, ?hy6⟩) (by assumption) ?rest6
            case hy6 => intro w' hSw; (try dsimp only at hSw); go_simp; try with_reducible rfl
            try simp only [Act.put, List.setIfInBounds_toArray, List.set_cons_zero, List.set_cons_succ]
            refine wpAnyH_take (i := 6) (v := ?v7) (ops_at rfl) (by kernel_rfl) (by kernel_rfl) (by kernel_rfl) (fun _ _ _ h => h) (Or.inl ⟨by rfl, ?hy7⟩) (by assumption) ?rest7
            case hy7 => intro w' hSw; (try dsimp only at hSw); go_simp; try with_reducible rfl
            try simp only [Act.put, List.setIfInBounds_toArray, List.set_cons_zero, List.set_cons_succ]
            refine wpAnyH_take (i := 7) (v := ?v8) (ops_at rfl) (by kernel_rfl) (by kernel_rfl) (by kernel_rfl) (fun _ _ _ h => h) (Or.inl ⟨by rfl, ?hy8⟩) (by assumption) ?rest8
            case hy8 => intro w' hSw; (try dsimp only at hSw); go_simp; try with_reducible rfl
            try simp only [Act.put, List.setIfInBounds_toArray, List.set_cons_zero, List.set_cons_succ]
            refine wpAnyH_take (i := 8) (v := ?v9) (ops_at rfl) (by kernel_rfl) (by kernel_rfl) (by kernel_rfl) (fun _ _ _ h => h) (Or.inl ⟨by rfl, ?hy9⟩) (by assumption) ?rest9
            case hy9 => intro w' hSw; (try dsimp only at hSw); go_simp; try with_reducible rfl
            try simp only [Act.put, List.setIfInBounds_toArray, List.set_cons_zero, List.set_cons_succ]
            refine wpAnyH_ready (rs := [9]) (by kernel_rfl) (by simp) ?_
            refine AllReadyH.cons (ops_at rfl) (fun K hK => ?_) AllReadyH.nil
            go_simp
            refine (rnum_any a.worked _).mono ?_
            rintro e w5 ⟨v5, rfl, ho5, hb5⟩
            obtain ⟨a5, c5, rfl⟩ := ho5.written HK5.out
            have S5 := (S4.drew.bytes ho5 hb5).rot
            have hcv := str_run w5 a5 _ k5' c5 HK5.out (S5.at 0 rfl)
            clear ho5 hb5
            refine hK.out _ _ (by exact keep S5.tail) (fun hHeld => ?_)
            clear hK K
            try simp only [Act.put, List.setIfInBounds_toArray, List.set_cons_zero, List.set_cons_succ]
            refine wpAnyH_ready (rs := [10]) (by kernel_rfl) (by simp) ?_
            refine AllReadyH.cons (ops_at rfl) (fun K hK => ?_) AllReadyH.nil
            go_simp
            refine hK.out _ _ (by exact keep S5.tail) (fun hHeld => ?_)
            clear hK K
            try simp only [Act.put, List.setIfInBounds_toArray, List.set_cons_zero, List.set_cons_succ]
            clear hcv
            refine wpAnyH_ready (rs := [11]) (by kernel_rfl) (by simp) ?_
            refine AllReadyH.cons (ops_at rfl) (fun K hK => ?_) AllReadyH.nil
            go_simp
            refine (rtext_any _ (by show (codeNum a.worked).toArray.size ≤ _; rw [List.size_toArray, HK5.out]; omega) _).mono ?_
            rintro e w6 ⟨v6, rfl, ho6, hb6⟩
            have ho6' : Own w6 w5.heap.size v6 (ckData a.worked) := ho6
            obtain ⟨a6, c6, rfl⟩ := ho6'.written HK6.out
            have S6 := (S5.tail.bytes ho6' hb6).rot
            clear ho6 ho6' hb6 S5
            refine hK.out _ _ (by exact keep S6.tail) (fun hHeld => ?_)
            clear hK K
            try simp only [Act.put, List.setIfInBounds_toArray, List.set_cons_zero, List.set_cons_succ]
            refine wpAnyH_ready (rs := [12]) (by kernel_rfl) (by simp) ?_
            refine AllReadyH.cons (ops_at rfl) (fun K hK => ?_) AllReadyH.nil
            go_simp
            have S6' : St w0 w6 (rstT h q :: bytesT (.slice a6 k6 c6) (ckData a.worked) :: cellsT g8 23 AG.zero.cs :: cellsT g5 25 m.cs :: cellsT g4 23 (#[.bool true, .int .i64 m.term, .int .i64 m.gen, .int .i64 a.mode, .int .i64 a.job, .int .i64 a.inc, .int .i64 a.version, .int .i64 a.lease, .int .i64 a.worked, .int .i64 a.to_] : Array Value).toList :: tl) := S6.front 4 rfl
            refine (rqStageR_any S6' hq hw m.term a.job a.inc a6 _ k6 c6 HK6.out (by omega) (Reads.at 0 rfl)).mono ?_
            rintro e w7 ⟨rfl, S7⟩
            rw [HR.out] at S7 ⊢
            have S8 : St w0 w7 (cellsT g8 23 AG.zero.cs :: rstT h r.2 :: bytesT (.slice a6 k6 c6) (ckData a.worked) :: cellsT g5 25 m.cs :: cellsT g4 23 ({ a with up := true, term := m.term, gen := m.gen } : AG).cs :: tl) := S7.front 2 rfl
            refine hK.out _ _ (by exact keep S7.tail.tail) (fun hHeld => ?_)
            clear hK K
            try simp only [Act.put, List.setIfInBounds_toArray, List.set_cons_zero, List.set_cons_succ]
            refine wpAnyH_take (i := 13) (v := ?v13) (ops_at rfl) (by kernel_rfl) (by kernel_rfl) (by kernel_rfl) (fun _ _ _ h => h) (Or.inl ⟨by rfl, ?hy13⟩) (by assumption) ?rest13
            case hy13 => intro w' hSw; (try dsimp only at hSw); go_simp; try with_reducible rfl
            try simp only [Act.put, List.setIfInBounds_toArray, List.set_cons_zero, List.set_cons_succ]
            refine wpAnyH_done (by kernel_rfl) ?_ _
            clear S6 S6' S7 keep hHeld S4
            obtain ⟨x0, x1, x2, x3, x4, x5, x6, x7, x8, x9⟩ := S8.agAt 4 rfl
            obtain ⟨f0, f1, f2, f3, f4, f5, f6, f7, f8, f9⟩ := S8.agFz 4 rfl
            obtain ⟨z0, z1, z2, z3, z4, z5, z6, z7, z8, z9⟩ := S8.agAt 0 rfl
            obtain ⟨v0, v1, v2, v3, v4, v5, v6, v7, v8, v9⟩ := S8.agFz 0 rfl
            have n1 := S8.neqAg 0 4 (by decide) rfl rfl
            have n2 := S8.neqAg 4 0 (by decide) rfl rfl
            obtain ⟨c, q2⟩ := r
            by_cases hc : c = 0
            · have g0 : (c == 0) = true := by simpa using hc
              have E2 : Hid (rOrder ({ a with up := true, term := m.term, gen := m.gen } : AG) m now q = (({ ({ a with up := true, term := m.term, gen := m.gen } : AG) with mode := 3 } : AG), q2)) := by rw [Hid, E.out, if_pos hc]
              clear hc
              have SX := (S8.setCell 4 rfl 3 (.int .i64 3)).setAg (b := { ({ a with up := true, term := m.term, gen := m.gen } : AG) with mode := 3 })
              go_wp2
              exact bodyPost_ret (res_agB rfl _ _ g8 _ _ rfl (by exact SX.heap 0 rfl) rfl rfl) rfl ⟨by rw [E2.out]; rfl, by rw [E2.out]; exact ((((SX.tail.front 1 rfl).tail.front 1 rfl).tail.front 1 rfl).tail)⟩
            · have g0 : (c == 0) = false := by simpa using hc
              have E2 : Hid (rOrder ({ a with up := true, term := m.term, gen := m.gen } : AG) m now q = (({ a with up := true, term := m.term, gen := m.gen } : AG), q2)) := by rw [Hid, E.out, if_neg hc]
              clear hc
              have SX := S8.setAg (b := ({ a with up := true, term := m.term, gen := m.gen } : AG))
              go_wp2
              exact bodyPost_ret (res_agB rfl _ _ g8 _ _ rfl (by exact SX.heap 0 rfl) rfl rfl) rfl ⟨by rw [E2.out]; rfl, by rw [E2.out]; exact ((((SX.tail.front 1 rfl).tail.front 1 rfl).tail.front 1 rfl).tail)⟩
  · clear HKk
    have e1 : (m.kind == 1) = false := by rw [hk]; rfl
    have e2 : (m.kind == 2) = false := by rw [hk]; rfl
    have e3 : (m.kind == 3) = false := by rw [hk]; rfl
    have e4 : (m.kind == 4) = false := by rw [hk]; rfl
    have e5 : (m.kind == 5) = true := by rw [hk]; rfl
    have HK := hid hk
    clear hk
    cases m0 : (a.mode == 0)
    · have E := hid (rO5_no (b := ({ a with up := true, term := m.term, gen := m.gen } : AG)) (now := now) (q := q) (by rw [HK.out]; decide) (fun c => bf m0 c.1))
      go_wp2
      all_goals exact bodyPost_ret (res_agB rfl _ _ (w.heap.size + 1 + 1) _ _ rfl (heap34 _ _ _ _ _ _) rfl rfl) rfl ⟨by rw [E.out]; rfl, by rw [E.out]; exact (((S.alloc _).alloc _).alloc _).alloc _⟩
    · cases v1 : decide (1 ≤ m.version)
      · have E := hid (rO5_no (b := ({ a with up := true, term := m.term, gen := m.gen } : AG)) (now := now) (q := q) (by rw [HK.out]; decide) (fun c => of_decide_eq_false v1 c.2.1))
        go_wp2
        all_goals exact bodyPost_ret (res_agB rfl _ _ (w.heap.size + 1 + 1) _ _ rfl (heap34 _ _ _ _ _ _) rfl rfl) rfl ⟨by rw [E.out]; rfl, by rw [E.out]; exact (((S.alloc _).alloc _).alloc _).alloc _⟩
      · cases v9 : decide (m.version ≤ 9)
        · have E := hid (rO5_no (b := ({ a with up := true, term := m.term, gen := m.gen } : AG)) (now := now) (q := q) (by rw [HK.out]; decide) (fun c => of_decide_eq_false v9 c.2.2))
          go_wp2
          all_goals exact bodyPost_ret (res_agB rfl _ _ (w.heap.size + 1 + 1) _ _ rfl (heap34 _ _ _ _ _ _) rfl rfl) rfl ⟨by rw [E.out]; rfl, by rw [E.out]; exact (((S.alloc _).alloc _).alloc _).alloc _⟩
        · have E := hid (rO5_set (b := ({ a with up := true, term := m.term, gen := m.gen } : AG)) (now := now) (q := q) (by rw [HK.out]; decide) ⟨bt m0, of_decide_eq_true v1, of_decide_eq_true v9⟩)
          go_wp2
          all_goals exact bodyPost_ret (res_agB rfl _ _ (w.heap.size + 1 + 1) _ _ rfl (heap34 _ _ _ _ _ _) rfl rfl) rfl ⟨by rw [E.out]; rfl, by rw [E.out]; exact (((S.alloc _).alloc _).alloc _).alloc _⟩
set_option maxRecDepth 10000 in
set_option maxHeartbeats 6400000 in
theorem rTake_no (S : St w0 w (rstT h q :: tl)) (a : AG) (m : Msg) (now : Int) (ht : takesB a m = false) :
    Calls Try.prog 10 #[.agg #[.bool a.up, .int .i64 a.term, .int .i64 a.gen, .int .i64 a.mode, .int .i64 a.job, .int .i64 a.inc, .int .i64 a.version, .int .i64 a.lease, .int .i64 a.worked, .int .i64 a.to_], .agg #[.int .i64 m.node, .int .i64 m.kind, .int .i64 m.term, .int .i64 m.gen, .int .i64 m.job, .int .i64 m.inc, .int .i64 m.version, .int .i64 m.epoch, .int .i64 m.until_, .int .i64 m.mode, .int .i64 m.work], .int .i64 now, .pointer (some ⟨h, 0, none⟩)] w fun e w' => e = .returned (.tuple #[a.v, .bool false]) ∧ St w0 w' (rstT h q :: tl) := by
  by_cases hu : a.up = true
  case neg =>
    have g0 : (!a.up) = true := by simpa using hu
    clear hu ht
    go_enter Try.func10, Try.ntmps10
    go_wp2
    all_goals exact bodyPost_ret (res_agB rfl _ _ (w.heap.size + 1 + 1) _ _ rfl (heap33 _ _ _ _ _) rfl rfl) rfl ⟨rfl, ((S.alloc _).alloc _).alloc _⟩
  have g0 : (!a.up) = false := by simpa using hu
  by_cases k1 : m.kind < 1
  · have g1 : decide (m.kind < 1) = true := decide_eq_true k1
    clear hu ht k1
    go_enter Try.func10, Try.ntmps10
    go_wp2
    all_goals exact bodyPost_ret (res_agB rfl _ _ (w.heap.size + 1 + 1) _ _ rfl (heap33 _ _ _ _ _) rfl rfl) rfl ⟨rfl, ((S.alloc _).alloc _).alloc _⟩
  have g1 : decide (m.kind < 1) = false := decide_eq_false k1
  by_cases k5 : 5 < m.kind
  · have g2 : decide (5 < m.kind) = true := decide_eq_true k5
    clear hu ht k1 k5
    go_enter Try.func10, Try.ntmps10
    go_wp2
    all_goals exact bodyPost_ret (res_agB rfl _ _ (w.heap.size + 1 + 1) _ _ rfl (heap33 _ _ _ _ _) rfl rfl) rfl ⟨rfl, ((S.alloc _).alloc _).alloc _⟩
  have g2 : decide (5 < m.kind) = false := decide_eq_false k5
  by_cases kT : m.term < a.term
  · have g3 : decide (m.term < a.term) = true := decide_eq_true kT
    clear hu ht k1 k5 kT
    go_enter Try.func10, Try.ntmps10
    go_wp2
    all_goals exact bodyPost_ret (res_agB rfl _ _ (w.heap.size + 1 + 1) _ _ rfl (heap33 _ _ _ _ _) rfl rfl) rfl ⟨rfl, ((S.alloc _).alloc _).alloc _⟩
  have g3 : decide (m.term < a.term) = false := decide_eq_false kT
  have hx : m.term = a.term ∧ m.gen < a.gen := by
    unfold takesB at ht
    rw [hu, decide_eq_true (show 1 ≤ m.kind by omega), decide_eq_true (show m.kind ≤ 5 by omega), g3] at ht
    simpa using ht
  have g4 : (m.term == a.term) = true := by simpa using hx.1
  have g5 : decide (m.gen < a.gen) = true := decide_eq_true hx.2
  clear hu ht k1 k5 kT hx
  go_enter Try.func10, Try.ntmps10
  go_wp2
  all_goals exact bodyPost_ret (res_agB rfl _ _ (w.heap.size + 1 + 1) _ _ rfl (heap33 _ _ _ _ _) rfl rfl) rfl ⟨rfl, ((S.alloc _).alloc _).alloc _⟩
def rTakeR (a : AG) (m : Msg) (now : Int) (q : QS) : AG × QS := if takesB a m = true then rOrder { a with term := m.term, gen := m.gen } m now q else (a, q)
theorem rTake_any (S : St w0 w (rstT h q :: tl)) (hq : q.L.length ≤ 100000) (hw : q.writes ≤ 1000000) (a : AG) (m : Msg) (now : Int) :
    Calls Try.prog 10 #[.agg #[.bool a.up, .int .i64 a.term, .int .i64 a.gen, .int .i64 a.mode, .int .i64 a.job, .int .i64 a.inc, .int .i64 a.version, .int .i64 a.lease, .int .i64 a.worked, .int .i64 a.to_], .agg #[.int .i64 m.node, .int .i64 m.kind, .int .i64 m.term, .int .i64 m.gen, .int .i64 m.job, .int .i64 m.inc, .int .i64 m.version, .int .i64 m.epoch, .int .i64 m.until_, .int .i64 m.mode, .int .i64 m.work], .int .i64 now, .pointer (some ⟨h, 0, none⟩)] w fun e w' => e = .returned (.tuple #[(rTakeR a m now q).1.v, .bool (takesB a m)]) ∧ St w0 w' (rstT h (rTakeR a m now q).2 :: tl) := by
  cases ht : takesB a m
  · have e : rTakeR a m now q = (a, q) := by unfold rTakeR; rw [ht]; rfl
    rw [e]; exact rTake_no S a m now ht
  · have e : rTakeR a m now q = rOrder { a with term := m.term, gen := m.gen } m now q := by unfold rTakeR; rw [ht]; rfl
    rw [e]
    have hu := takesB_up ht
    have hk := takesB_kind ht
    have ht2 := ht
    simp only [takesB, Bool.and_eq_true, Bool.not_eq_true', decide_eq_true_eq, Bool.and_eq_false_iff, decide_eq_false_iff_not] at ht2
    obtain ⟨-, -, -, hT, hG⟩ := ht2
    have k1 : decide (m.kind < 1) = false := decide_eq_false (by omega)
    have k5 : decide (5 < m.kind) = false := decide_eq_false (by omega)
    have hT' : decide (m.term < a.term) = false := decide_eq_false hT
    have hG' : ((m.term == a.term) = true ∧ decide (m.gen < a.gen) = false) ∨ (m.term == a.term) = false := by
      by_cases h : m.term = a.term
      · rcases hG with h2 | h2
        · exact absurd h h2
        · exact .inl ⟨by simpa using h, decide_eq_false h2⟩
      · exact .inr (by simpa using h)
    rw [hu]
    exact rTake_yes S hq hw a m now k1 k5 hT' hG' (by omega)
end
end Go.Proofs.Ytchehnkmmmnonaa
