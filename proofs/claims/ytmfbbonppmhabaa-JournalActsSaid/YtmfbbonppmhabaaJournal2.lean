/- The journal: whether all records are elder; Count, Room. -/
import Derived.Test.YtmfbbonppmhabaaJournal
namespace Go.Proofs.Ytmfbbonppmhabaa
set_option linter.unusedVariables false
set_option linter.unusedSimpArgs false
open Go.RowKit
def newR (f : Int) (r : List UInt8) : Bool := match getNum r 0 with | none => true | some p => decide (f ≤ (p.1 : Int))
section
variable {w0 w : World} {tl : List Thing}
set_option maxRecDepth 10000 in
theorem jlNew (x : BS) (g : Nat) (f : Int) (w : World) (hx : BS.Hd x) (h4 : x.l.length ≤ 4000) (hA : At w x.a x.l) (hg : w.cell? ⟨g, 0, none⟩ = some (.int .i64 f)) :
    Calls Try.prog 62 #[.slice x.a x.n x.c, .pointer (some ⟨g, 0, none⟩)] w fun e w' => e = .returned (.bool (newR f x.l)) ∧ w = w' := by
  have h1 := hx.len
  have HA := hid hA
  have HE : Hid (newR f x.l = match getNum x.l 0 with | none => true | some p => decide (f ≤ (p.1 : Int))) := rfl
  have H := getNum_any x.a x.l x.n x.c 0 w h1 (by omega) hx.le hA
  clear hA
  go_enter Try.func62, Try.ntmps62
  go_wp2_with fail
  refine H.mono ?_
  rintro e w1 ⟨rfl, rfl⟩
  generalize getNum x.l 0 = o at *
  cases o with
  | none =>
    rw [show res3 none = .tuple #[.int .i64 0, .int .i64 0, .bool false] from rfl]
    go_wp2
    go_ret
    exact ⟨by rw [HE.out]; rfl, rfl⟩
  | some p =>
    obtain ⟨m, y⟩ := p
    rw [show res3 (some (m, y)) = .tuple #[.int .i64 (m : Int), .int .i64 (y : Int), .bool true] from rfl]
    go_wp2
    go_ret
    exact ⟨by rw [HE.out]; rfl, rfl⟩
set_option maxRecDepth 10000 in
set_option maxHeartbeats 3200000 in
theorem jlIndex {a : Option Addr} {n c : Nat} {recs : List BS} {g : Nat} {f : Int} (S : St w0 w (rowsT eS bsRefs (.slice a n c) recs :: cellsT g 3 [.int .i64 f] :: tl)) (hn : n ≤ 1000000) (hhd : ∀ x ∈ recs, BS.Hd x) (hsm : ∀ x ∈ recs, x.l.length ≤ 4000) :
    Calls Try.prog 77 #[.slice a n c, .func (.func 62) #[] #[.pointer (some ⟨g, 0, none⟩)]] w fun e w' => ∃ r : Int, e = .returned (.int .i64 r) ∧ decide (0 ≤ r) = (recs.map BS.l).any (newR f) ∧ w = w' := by
  have A := S.rowsAt eSok 0 rfl
  have HN := hid A.1
  have HAt := hid A.2.2.2.2.1
  have HX := hid A.2.2.2.2.2
  have HHd := hid hhd
  have HSm := hid hsm
  have HG := hid (S.cell 1 rfl 0 rfl)
  clear A hhd hsm
  go_enter Try.func77, Try.ntmps77
  go_wp2_with fail
  go_loopw [5, 8] (fun z i wr => ∃ (k : Nat) (x : Value), k ≤ n ∧ z = x ∧ i = .int .i64 k ∧ ((recs.take k).map BS.l).any (newR f) = false ∧ w = wr) (fun _ i _ => n - (intOf i).toNat)
  case atStart => exact ⟨0, _, Nat.zero_le _, rfl, rfl, by simp, rfl⟩
  case round =>
    obtain ⟨k, x, hk, rfl, rfl, hno, rfl⟩ := hrel
    have HNo := hid hno
    clear hno
    by_cases hlt : k < n
    case neg =>
      have g0 : decide ((k : Int) < (n : Int)) = false := decide_eq_false (by omega)
      have g0n : decide (k < n) = false := decide_eq_false (by omega)
      have E : Hid ((recs.map BS.l).any (newR f) = false) := by
        have := HNo.out
        rw [List.take_of_length_le (by rw [HN.out]; omega)] at this
        exact this
      clear hlt
      go_wp2
      go_ret
      exact ⟨_, rfl, by rw [E.out]; rfl, rfl⟩
    have g0 : decide ((k : Int) < (n : Int)) = true := decide_eq_true (by omega)
    have g0n : decide (k < n) = true := decide_eq_true (by omega)
    have hkl : k < recs.length := by rw [HN.out]; exact hlt
    have i0 := fun wx => idxS a n c (fun h => HAt.out.ok (by omega)) k k rfl hlt wx
    have x0 := HAt.out.cellS hkl
    have HXk := hid (jlNew recs[k] g f w (HHd.out _ (List.getElem_mem hkl)) (HSm.out _ (List.getElem_mem hkl)) (HX.out _ (List.getElem_mem hkl) _ (List.mem_singleton.2 rfl)) HG.out)
    have HTk : Hid (((recs.take (k + 1)).map BS.l).any (newR f) = (((recs.take k).map BS.l).any (newR f) || newR f recs[k].l)) := by
      rw [Hid, List.take_add_one, List.getElem?_eq_getElem hkl, List.map_append, List.any_append]; simp
    have HM : Hid (newR f recs[k].l = true → (recs.map BS.l).any (newR f) = true) := fun h => List.any_eq_true.2 ⟨_, List.mem_map.2 ⟨_, List.getElem_mem hkl, rfl⟩, h⟩
    generalize recs[k] = y at *
    generalize adr a k = A at *
    go_wp2_with fail
    refine HXk.out.mono ?_
    rintro e w3 ⟨rfl, rfl⟩
    cases hp : newR f y.l
    · have E : Hid (((recs.take (k + 1)).map BS.l).any (newR f) = false) := by rw [Hid, HTk.out, HNo.out, hp]; rfl
      clear hp HTk HM HNo
      go_wp2
      go_roundw
      case rel => exact ⟨k + 1, _, by omega, rfl, by go_num, E.out, trivial⟩
      case measure => simp [intOf]; omega
    · have E : Hid ((recs.map BS.l).any (newR f) = true) := HM.out hp
      clear hp HTk HM HNo
      go_wp2
      go_ret
      exact ⟨_, rfl, by rw [E.out]; exact decide_eq_true (by omega), rfl⟩
set_option maxRecDepth 10000 in
theorem jlContains {a : Option Addr} {n c : Nat} {recs : List BS} {g : Nat} {f : Int} (S : St w0 w (rowsT eS bsRefs (.slice a n c) recs :: cellsT g 3 [.int .i64 f] :: tl)) (hn : n ≤ 1000000) (hhd : ∀ x ∈ recs, BS.Hd x) (hsm : ∀ x ∈ recs, x.l.length ≤ 4000) :
    Calls Try.prog 61 #[.slice a n c, .func (.func 62) #[] #[.pointer (some ⟨g, 0, none⟩)]] w fun e w' => e = .returned (.bool ((recs.map BS.l).any (newR f))) ∧ w = w' := by
  have HI := jlIndex S hn hhd hsm
  clear hhd hsm
  obtain ⟨b, hbq⟩ : ∃ b, (recs.map BS.l).any (newR f) = b := ⟨_, rfl⟩
  rw [hbq] at HI ⊢
  clear hbq
  go_enter Try.func61, Try.ntmps61
  go_wp2_with fail
  refine HI.mono ?_
  rintro e w1 ⟨r, rfl, hr, rfl⟩
  go_wp2
  go_ret
  exact ⟨by rw [← hr]; rfl, rfl⟩
theorem elder_is (f : Nat) : ∀ rs : List (List UInt8), (decide (0 < rs.length) && !rs.any (newR (f : Int))) = elderL rs f := by
  intro rs
  unfold elderL
  congr 1
  induction rs with
  | nil => rfl
  | cons r rs ih =>
    rw [List.any_cons, List.all_cons, ← ih, Bool.not_or]
    congr 1
    unfold newR
    cases getNum r 0 with
    | none => rfl
    | some p => rw [Bool.eq_iff_iff]; simp
set_option maxRecDepth 10000 in
set_option maxHeartbeats 3200000 in
theorem jlElder {a : Option Addr} {n c : Nat} {recs : List BS} {f : Nat} (S : St w0 w (rowsT eS bsRefs (.slice a n c) recs :: tl)) (hn : n ≤ 1000000) (hhd : ∀ x ∈ recs, BS.Hd x) (hsm : ∀ x ∈ recs, x.l.length ≤ 4000) :
    Calls Try.prog 35 #[.slice a n c, .int .i64 (f : Int)] w fun e w' => e = .returned (.bool (elderL (recs.map BS.l) f)) ∧ Below w.heap.size w w' := by
  have S1 : St w0 _ (rowsT eS bsRefs (.slice a n c) recs :: cellsT w.heap.size 3 [.int .i64 (f : Int)] :: tl) := ((S.newCells 3 #[.int .i64 (f : Int)]).rot).swap
  have hb : Below w.heap.size w (w.alloc (.cells #[.int .i64 (f : Int)] 3)) := (Below.refl _ _).alloc (Nat.le_refl _) _
  have HN := hid (S.rowsAt eSok 0 rfl).1
  have HE := hid (elder_is f (recs.map BS.l))
  have hmf : ∀ (fn : Fn) (first cap : Array Value) (w : World), (Instr.makeFunc fn first cap).run Try.prog w = .ok (.func fn first cap) w := fun _ _ _ _ => rfl
  have HHd := hid hhd
  have HSm := hid hsm
  clear hhd hsm
  by_cases h0 : 0 < n
  · have g0 : decide ((0 : Int) < (n : Int)) = true := decide_eq_true (by omega)
    have g0n : decide (0 < n) = true := decide_eq_true h0
    have E0 : Hid (elderL (recs.map BS.l) f = !(recs.map BS.l).any (newR (f : Int))) := by rw [Hid, ← HE.out, List.length_map, HN.out, g0n]; rfl
    clear h0 HE
    go_enter Try.func35, Try.ntmps35
    go_wp2_with fail
    refine (jlContains (by exact S1) hn HHd.out HSm.out).mono ?_
    rintro e w2 ⟨rfl, rfl⟩
    obtain ⟨b, hbq⟩ : ∃ b, (recs.map BS.l).any (newR (f : Int)) = b := ⟨_, rfl⟩
    rw [hbq] at E0 ⊢
    clear hbq
    go_wp2
    go_ret
    exact ⟨by rw [E0.out]; rfl, hb⟩
  · have g0 : decide ((0 : Int) < (n : Int)) = false := decide_eq_false (by omega)
    have g0n : decide (0 < n) = false := decide_eq_false h0
    have E0 : Hid (elderL (recs.map BS.l) f = false) := by rw [Hid, ← HE.out, List.length_map, HN.out, g0n]; rfl
    clear h0 HE
    go_enter Try.func35, Try.ntmps35
    go_wp2
    go_ret
    exact ⟨by rw [E0.out]; rfl, hb⟩
end
end Go.Proofs.Ytmfbbonppmhabaa
