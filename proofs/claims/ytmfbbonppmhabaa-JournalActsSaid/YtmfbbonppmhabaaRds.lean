/- The document's disk (dunnageref04): its walks. The document's disk: Crash, Sync, Bytes. The disk and the document's disk: lists alone. -/
import Derived.Test.YtmfbbonppmhabaaThings
import Derived.Test.YtmfbbonppmhabaaCodes
namespace Go.Proofs.Ytmfbbonppmhabaa
set_option linter.unusedVariables false
set_option linter.unusedSimpArgs false
open Go.RowKit

/-- What lasts, the places and bytes that wait, how often it was synced. -/
structure RD where
  b : List UInt8
  ps : List (Nat × UInt8)
  syncs : Nat
def rdAt (ps : List (Nat × UInt8)) : List Int := ps.map fun p => (p.1 : Int)
def rdV (ps : List (Nat × UInt8)) : List UInt8 := ps.map (·.2)
def rdSet (b : List UInt8) (ps : List (Nat × UInt8)) : List UInt8 := ps.foldl (fun b p => b.set p.1 p.2) b
def RD.write (r : RD) (at_ : Int) (l : List UInt8) : RD := if at_ < 0 ∨ (r.b.length : Int) < at_ + l.length then r else { r with ps := r.ps ++ (List.range l.length).map fun i => (at_.toNat + i, l.getD i 0) }
def RD.crash (r : RD) (keep : Int) : RD := ⟨rdSet r.b (r.ps.take keep.toNat), [], r.syncs⟩
def RD.sync (r : RD) : RD := ⟨rdSet r.b r.ps, [], r.syncs + 1⟩
def RD.bytes (r : RD) : List UInt8 := rdSet r.b r.ps
structure RD.Ok (r : RD) : Prop where
  fit : ∀ p ∈ r.ps, p.1 < r.b.length
  big : r.b.length ≤ 65536

/-- The parts of a disk: its own cells, what lasts, the places, the bytes. -/
def rdParts (r : RD) (g : Nat) (vb va vv : Value) : Thing := sepT (sepT (sepT (cellsT g 82 [vb, va, vv, .int .i64 (r.syncs : Int)]) (bytesT vb r.b)) (ownT eI va (rdAt r.ps))) (bytesT vv (rdV r.ps))
/-- The disk `r` behind `p`. -/
def rdT (p : Value) (r : RD) : Thing := andT r.Ok (exT fun g => exT fun vb => exT fun va => exT fun vv => andT (p = .pointer (some ⟨g, 0, none⟩)) (rdParts r g vb va vv))
section
variable {w0 w : World} {tl : List Thing} {p : Value} {r : RD}
theorem St.rdOpen (S : St w0 w (rdT p r :: tl)) : r.Ok ∧ ∃ g vb va vv, p = .pointer (some ⟨g, 0, none⟩) ∧ St w0 w (cellsT g 82 [vb, va, vv, .int .i64 (r.syncs : Int)] :: bytesT vb r.b :: ownT eI va (rdAt r.ps) :: bytesT vv (rdV r.ps) :: tl) := by
  obtain ⟨h, S1⟩ := S.andF
  obtain ⟨g, S1⟩ := S1.exF
  obtain ⟨vb, S1⟩ := S1.exF
  obtain ⟨va, S1⟩ := S1.exF
  obtain ⟨vv, S1⟩ := S1.exF
  obtain ⟨e, S3⟩ := S1.andF
  exact ⟨h, g, vb, va, vv, e, S3.splitF.splitF.splitF⟩
theorem St.rdShut {g : Nat} {vb va vv : Value} (S : St w0 w (cellsT g 82 [vb, va, vv, .int .i64 (r.syncs : Int)] :: bytesT vb r.b :: ownT eI va (rdAt r.ps) :: bytesT vv (rdV r.ps) :: tl)) (h : r.Ok) : St w0 w (rdT (.pointer (some ⟨g, 0, none⟩)) r :: tl) :=
  St.andI h (St.exI g (St.exI vb (St.exI va (St.exI vv (St.andI rfl S.joinF.joinF.joinF)))))

set_option maxRecDepth 10000 in
theorem rdnew_any (S : St w0 w tl) (n : Nat) (h2 : n ≤ 65536) :
    Calls Try.prog 15 #[.int .i64 n] w fun e w' => ∃ p, e = .returned p ∧ St w0 w' (rdT p ⟨List.replicate n 0, [], 0⟩ :: tl) ∧ Below w.heap.size w w' := by
  go_enter Try.func15, Try.ntmps15
  go_wp2_with (at_make; refine wpList_make (by rfl) (.tmp 3) (.tmp 3) 27 rfl _ _ rfl rfl (run_make _ n (by omega)) ?_; rintro v2 w2 ⟨rfl, hown2, hb2⟩; have HO2 := hid hown2; have HB2 := hid hb2; clear hown2 hb2)
  go_ret
  refine ⟨_, rfl, ?_, HB2.out.trans (((Below.refl _ _).alloc (Nat.le_refl _) _).mono HB2.out.size)⟩
  have S1 := ((S.nil.rot.nilG eI).rot.bytes HO2.out HB2.out).rot
  have S2 := (S1.newCells 82 #[.slice (some ⟨w.heap.size, 0, none⟩) n n, .slice none 0 0, .slice none 0 0, .int .i64 0]).rot
  exact St.rdShut (r := ⟨List.replicate n 0, [], 0⟩) S2 ⟨by simp, by simp; exact h2⟩

theorem at_len {a : Option Addr} {c n : Nat} {l : List UInt8} {w : World} {B : Nat} (h : Own w B (.slice a n c) l) : l.length = n := by
  obtain ⟨a', c', e, _⟩ := OwnG.at eBok ((ownB _ _ _ _).2 h)
  cases e; rfl

theorem rdV_write (ps : List (Nat × UInt8)) (l : List UInt8) (k0 : Nat) {k : Nat} (hk : l.length = k) : rdV (ps ++ (List.range k).map fun i => (k0 + i, l.getD i 0)) = rdV ps ++ l.take k := by
  subst hk
  unfold rdV
  rw [List.map_append]
  congr 1
  apply List.ext_getElem
  · simp
  · intro i h1 h2
    simp at h1
    simp [h1]
theorem rdEnd {g : Nat} {T : TypeId} {v0 v3 y1 y2 : Value} {r : RD} {l LV : List UInt8} {LA : List Int} {k k0 : Nat} {x : UInt8} {B : Thing} {tl : List Thing} (h1 : (rdAt r.ps ++ (List.range k).map fun i => ((k0 + i : Nat) : Int)) = LA) (h2 : rdV r.ps ++ l.take k = LV) (hk : k < l.length) (hx : l[k] = x) :
    (cellsT g T [v0, y1, y2, v3] :: B :: ownT eI y1 (LA ++ [(k0 : Int) + (k : Int)]) :: bytesT y2 (LV ++ [x]) :: tl) = (cellsT g T [v0, y1, y2, v3] :: B :: ownT eI y1 (rdAt r.ps ++ (List.range (k + 1)).map fun i => ((k0 + i : Nat) : Int)) :: bytesT y2 (rdV r.ps ++ l.take (k + 1)) :: tl) := by
  subst h1 h2 hx
  rw [List.range_succ, List.map_append, List.take_succ_eq_append_getElem hk, ← List.append_assoc, ← List.append_assoc]
  rfl
set_option maxRecDepth 10000 in
set_option maxHeartbeats 1600000 in
theorem rdwrite_any (S : St w0 w (rdT p r :: tl)) (at_ : Int) (a : Option Addr) (l : List UInt8) (n cap : Nat) (c : Int) (hc : (if at_ < 0 then 1 else if (r.b.length : Int) < at_ + n then 3 else 0) = c) (hn : l.length = n) (hm : n ≤ 65536) (hps : r.ps.length ≤ 100000000) (hA : Reads w0 tl a l) :
    Calls Try.prog 72 #[p, .int .i64 at_, .slice a n cap] w fun e w' => e = .returned (.int .i64 c) ∧ St w0 w' (rdT p (r.write at_ l) :: tl) := by
  obtain ⟨hok, g, vb, va, vv, rfl, S1⟩ := S.rdOpen
  have HC := hid hc
  have HN := hid hn
  have HA := hid hA
  have HOk := hid hok
  obtain ⟨ab, cb, eb, hb1, hb2, hb3, hb4⟩ := S1.sl 1 rfl
  subst eb
  have hbig := hok.big
  have c0 := S1.cell 0 rfl 0 rfl
  have c1 := S1.cell 0 rfl 1 rfl
  have c2 := S1.cell 0 rfl 2 rfl
  clear hc hn hA hok hb4 hb3
  generalize hL : r.b.length = L at *
  have HL := hid hL
  clear hL
  by_cases q0 : at_ < 0
  · go_enter Try.func72, Try.ntmps72
    go_wp2
    go_ret
    have e : r.write at_ l = r := by unfold RD.write; rw [if_pos (.inl q0)]
    rw [e, ← HC.out, if_pos q0]
    exact ⟨rfl, S⟩
  · obtain ⟨k0, rfl⟩ := Int.eq_ofNat_of_zero_le (show 0 ≤ at_ by omega)
    by_cases q1 : L < k0 + n
    · by_cases q2 : L < k0
      · have g1 : decide ((L : Int) < (k0 : Int)) = true := decide_eq_true (by omega)
        go_enter Try.func72, Try.ntmps72
        go_wp2
        go_ret
        have e : r.write (k0 : Int) l = r := by unfold RD.write; rw [if_pos (.inr (by rw [HL.out, HN.out]; omega))]
        rw [e, ← HC.out, if_neg (by omega), if_pos (by omega)]
        exact ⟨rfl, S⟩
      · have g1 : decide ((L : Int) < (k0 : Int)) = false := decide_eq_false (by omega)
        have g2 : decide ((L : Int) - (k0 : Int) < (n : Int)) = true := decide_eq_true (by omega)
        go_enter Try.func72, Try.ntmps72
        go_wp2
        go_ret
        have e : r.write (k0 : Int) l = r := by unfold RD.write; rw [if_pos (.inr (by rw [HL.out, HN.out]; omega))]
        rw [e, ← HC.out, if_neg (by omega), if_pos (by omega)]
        exact ⟨rfl, S⟩
    · have g1 : decide ((L : Int) < (k0 : Int)) = false := decide_eq_false (by omega)
      have g2 : decide ((L : Int) - (k0 : Int) < (n : Int)) = false := decide_eq_false (by omega)
      go_enter Try.func72, Try.ntmps72
      go_wp2_with fail
      clear c1 c2
      go_loopw [7] (fun q wr => ∃ (k : Nat) (va vv : Value), k ≤ n ∧ q = .int .i64 k ∧ St w0 wr (cellsT g 82 [.slice ab L cb, va, vv, .int .i64 (r.syncs : Int)] :: bytesT (.slice ab L cb) r.b :: ownT eI va (rdAt r.ps ++ (List.range k).map fun i => ((k0 + i : Nat) : Int)) :: bytesT vv (rdV r.ps ++ l.take k) :: tl)) (fun q _ => n - (intOf q).toNat)
      case atStart => exact ⟨0, va, vv, Nat.zero_le _, rfl, by simpa using S1⟩
      case round =>
        obtain ⟨k, va, vv, hk, rfl, Sk⟩ := hrel
        by_cases hlt : k < n
        · have hkl : k < l.length := by rw [HN.out]; exact hlt
          have lA : (rdAt r.ps ++ (List.range k).map fun i => ((k0 + i : Nat) : Int)).length + 1 = r.ps.length + k + 1 := by simp [rdAt]
          have lV : (rdV r.ps ++ l.take k).length + 1 = r.ps.length + k + 1 := by simp [rdV]; omega
          obtain ⟨a1, n1, e1, hh1, hh2, hh3, hh4, _⟩ := (Sk.head 2 rfl).choose_spec.1.at eIok
          obtain ⟨a2, n2, e2, _⟩ := Sk.sl 3 rfl
          rw [show (rdAt r.ps ++ (List.range k).map fun i => ((k0 + i : Nat) : Int)).length = r.ps.length + k by omega] at e1
          rw [show (rdV r.ps ++ l.take k).length = r.ps.length + k by omega] at e2
          subst e1 e2
          obtain ⟨M, hM⟩ : ∃ M, r.ps.length + k = M := ⟨_, rfl⟩
          rw [hM] at Sk
          have HM := hid hM
          rw [hM] at lA lV
          have hMb : M ≤ 200000000 := by omega
          have HLA := hid lA
          have HLV := hid lV
          have i0 := fun wx => idx_at a n cap (fun h => (HA.out wr [_, _, _, _] Sk).ok (by omega)) k k rfl hlt wx
          obtain ⟨x, hx⟩ : ∃ x, l[k] = x := ⟨_, rfl⟩
          have HX := hid hx
          have c1 := Sk.cell 0 rfl 1 rfl
          clear hh1 hh2 hh3 hh4 hM lA lV hx
          generalize hga : (rdAt r.ps ++ (List.range k).map fun i => ((k0 + i : Nat) : Int)) = LA at *
          generalize hgv : rdV r.ps ++ l.take k = LV at *
          have HGA := hid hga
          have HGV := hid hgv
          clear hga hgv
          go_wp2_with (at_builtin; refine wpList_app (by rfl) (.tmp 39) (.tmp 43) 80 80 80 rfl rfl _ _ rfl rfl (Sk.appG1 eIok wr.heap.size rfl 2 rfl ((k0 : Int) + (k : Int)) _ (by rfl) (M + 1) HLA.out (by show (M + 1) * 8 ≤ _; omega) (by unfold maxLen; omega)) ?_; rintro v3 w3 ⟨⟨a3, n3, rfl⟩, S3⟩; have f3 := S3.frozen 0 rfl 1; have d3 := S3.cell 0 rfl 1 rfl)
          have S4 := S3.setCell 0 rfl 1 (.slice a3 (M + 1) n3)
          clear f3 d3
          generalize w3.setCell ⟨g, 1, none⟩ _ = w4 at S4 ⊢
          have c2 := S4.cell 0 rfl 2 rfl
          have ca : ∀ o : Obj, (w4.alloc o).cell? ⟨g, 2, none⟩ = _ := fun o => (S4.alloc o).cell 0 rfl 2 rfl
          have x2 : w4.cell? (adr a k) = some (.int .u8 (x.toNat : Int)) := by rw [← HX.out]; exact (HA.out w4 [_, _, _, _] S4).cell hkl
          go_region_law (first
            | (refine step_app (by rfl) (.tmp 51) (.tmp 56) 27 27 27 rfl rfl _ _ rfl rfl (S4.drew.app1 _ rfl 3 rfl x _ (by rfl) (M + 1) HLV.out (by omega)) ?_; rintro v5 w5 ⟨⟨a5, n5, rfl⟩, S5⟩; have f5 := S5.frozen 0 rfl 2; have d5 := S5.cell 0 rfl 2 rfl)
            | fail)
          all_goals (
            go_wp2
            go_roundw
            case rel => exact ⟨k + 1, _, _, by omega, by go_num, St.conv (S5.setCell 0 rfl 2 (.slice a5 (M + 1) n5)) (rdEnd HGA.out HGV.out hkl HX.out)⟩
            case measure => simp [intOf]; omega)
        · have ek : k = n := by omega
          have HE := hid ek
          clear ek
          go_wp2
          go_ret
          have ek := HE.out
          subst ek
          have e : r.write (k0 : Int) l = ⟨r.b, r.ps ++ (List.range k).map fun i => (k0 + i, l.getD i 0), r.syncs⟩ := by
            unfold RD.write; rw [if_neg (by rw [HL.out, HN.out]; omega), HN.out]; rfl
          rw [e, ← HC.out, if_neg (by omega), if_neg (by omega)]
          refine ⟨rfl, St.rdShut (r := ⟨r.b, r.ps ++ (List.range k).map fun i => (k0 + i, l.getD i 0), r.syncs⟩) (vb := .slice ab L cb) (va := va) (vv := vv) (St.conv Sk ?_) ⟨?_, HOk.out.big⟩⟩
          · have e1 : rdAt (r.ps ++ (List.range k).map fun i => (k0 + i, l.getD i 0)) = rdAt r.ps ++ (List.range k).map fun i => ((k0 + i : Nat) : Int) := by simp [rdAt, Function.comp_def]
            have e2 := rdV_write r.ps l k0 HN.out
            simp only [e1, e2]
          · intro q hq
            rcases List.mem_append.1 hq with h | h
            · exact HOk.out.fit q h
            · obtain ⟨i, hi, rfl⟩ := List.mem_map.1 h
              have := List.mem_range.1 hi
              have := HL.out
              show k0 + i < r.b.length
              omega

end

end Go.Proofs.Ytmfbbonppmhabaa

namespace Go.Proofs.Ytmfbbonppmhabaa
set_option linter.unusedVariables false
set_option linter.unusedSimpArgs false
open Go.RowKit

section
variable {w0 w : World} {tl : List Thing} {p : Value} {r : RD}
theorem run_both {x : Sem Value} {w : World} {A B : Value → World → Prop} (h1 : ∃ v w', x.run Try.prog w = .ok v w' ∧ A v w') (h2 : ∃ v w', x.run Try.prog w = .ok v w' ∧ B v w') : ∃ v w', x.run Try.prog w = .ok v w' ∧ A v w' ∧ B v w' := by
  obtain ⟨v, w', e, ha⟩ := h1
  obtain ⟨v2, w2, e2, hb⟩ := h2
  rw [e] at e2
  cases e2
  exact ⟨v, w', e, ha, hb⟩
theorem rdSet_len (ps : List (Nat × UInt8)) : ∀ b : List UInt8, (rdSet b ps).length = b.length := by
  unfold rdSet
  induction ps with
  | nil => intro b; rfl
  | cons p ps ih => intro b; rw [List.foldl_cons, ih, List.length_set]
theorem rdSet_take (b : List UInt8) (ps : List (Nat × UInt8)) (k : Nat) (hk : k < ps.length) : rdSet b (ps.take (k + 1)) = (rdSet b (ps.take k)).set ps[k].1 ps[k].2 := by
  unfold rdSet
  rw [List.take_succ_eq_append_getElem hk, List.foldl_append]; rfl
theorem St.setByte {g k n c : Nat} {l : List UInt8} (j : Nat) (hj : tl[j]? = some (bytesT (.slice (some ⟨g, 0, none⟩) n c) l)) (S : St w0 w tl) (x : UInt8) : St w0 (w.setCell ⟨g, k, none⟩ (bv x)) (tl.set j (bytesT (.slice (some ⟨g, 0, none⟩) n c) (l.set k x))) := by
  have hn := (S.slA j hj).1
  obtain ⟨F, ⟨h1, h2⟩, h3⟩ := S.step j hj
  exact h3 _ _ F ⟨h1.set hn k x, h2⟩ ((Touch.refl F w).setCell (p := ⟨g, k, none⟩) (.inl ((h2 g).2 rfl)) _) (fun b hb => .inl hb)

set_option maxRecDepth 10000 in
set_option maxHeartbeats 1600000 in
theorem rdcrash_any (S : St w0 w (rdT p r :: tl)) (keep : Int) (hps : r.ps.length ≤ 100000000) :
    Calls Try.prog 22 #[p, .int .i64 keep] w fun e w' => e = .returned (.tuple #[]) ∧ St w0 w' (rdT p (r.crash keep) :: tl) := by
  obtain ⟨hok, g, vb, va, vv, rfl, S1⟩ := S.rdOpen
  have HOk := hid hok
  obtain ⟨N, hN⟩ : ∃ N, r.ps.length = N := ⟨_, rfl⟩
  have lA : (rdAt r.ps).length = N := by simp [rdAt, hN]
  have lV : (rdV r.ps).length = N := by simp [rdV, hN]
  have HN := hid hN
  obtain ⟨ab, cb, rfl⟩ := S1.written 1 rfl (n := r.b.length) rfl
  obtain ⟨L, hL⟩ : ∃ L, r.b.length = L := ⟨_, rfl⟩
  rw [hL] at S1
  have HL := hid hL
  obtain ⟨a1, n1, rfl⟩ := S1.writtenG eIok 2 rfl lA
  obtain ⟨a2, n2, rfl⟩ := S1.written 3 rfl lV
  have HA1 := hid lA
  have HV1 := hid lV
  have c1 := S1.cell 0 rfl 1 rfl
  clear hN lA lV hL hok
  go_enter Try.func22, Try.ntmps22
  go_wp2_with fail
  go_loopw [4] (fun q wr => ∃ k : Nat, k ≤ N ∧ (k : Int) ≤ max 0 keep ∧ q = .int .i64 k ∧ St w0 wr (cellsT g 82 [.slice ab L cb, .slice a1 N n1, .slice a2 N n2, .int .i64 (r.syncs : Int)] :: bytesT (.slice ab L cb) (rdSet r.b (r.ps.take k)) :: ownT eI (.slice a1 N n1) (rdAt r.ps) :: bytesT (.slice a2 N n2) (rdV r.ps) :: tl)) (fun q _ => N - (intOf q).toNat)
  case atStart => exact ⟨0, Nat.zero_le _, by omega, rfl, S1⟩
  case round =>
    obtain ⟨k, hk, hkk, rfl, Sk⟩ := hrel
    have c1 := Sk.cell 0 rfl 1 rfl
    have fin : ∀ w2 : World, St w0 w2 (cellsT g 82 [.slice ab L cb, .slice none 0 0, .slice none 0 0, .int .i64 (r.syncs : Int)] :: bytesT (.slice ab L cb) (rdSet r.b (r.ps.take k)) :: ownT eI (.slice a1 N n1) (rdAt r.ps) :: bytesT (.slice a2 N n2) (rdV r.ps) :: tl) → (r.ps.take k = r.ps.take keep.toNat) → St w0 w2 (rdT (.pointer (some ⟨g, 0, none⟩)) (r.crash keep) :: tl) := by
      intro w2 S2 e
      have S3 := ((S2.front 2 rfl).tail.front 2 rfl).tail
      have S4 := (S3.nil.rot.nilG eI).rot
      have S5 := (S4.front 3 rfl).front 3 rfl
      rw [e] at S5
      exact St.rdShut (r := r.crash keep) S5 ⟨fun q hq => by simp [RD.crash] at hq, by show (rdSet r.b (r.ps.take keep.toNat)).length ≤ _; rw [rdSet_len]; exact HOk.out.big⟩
    have Fin := hid fin
    clear fin
    by_cases hlt : k < N
    · have g1 : decide (k < N) = true := decide_eq_true hlt
      by_cases hkp : (k : Int) < keep
      · have hkps : k < r.ps.length := by rw [HN.out]; exact hlt
        obtain ⟨q1, q2, q3, q4, q5⟩ := Sk.slG eIok 2 rfl
        obtain ⟨y1, y2, y3, y4, y5⟩ := Sk.slA 3 rfl
        have i1 := fun wx => idxI a1 N n1 (fun h => q5.ok (by omega)) k k rfl hlt wx
        have i2 := fun wx => idx_at a2 N n2 (fun h => y5.ok (by omega)) k k rfl hlt wx
        have hfit := HOk.out.fit _ (List.getElem_mem hkps)
        have hkA : k < (rdAt r.ps).length := by omega
        have hkV : k < (rdV r.ps).length := by omega
        have x1 := q5.cellI hkA
        have x2 := y5.cell hkV
        rw [show (rdAt r.ps)[k] = (r.ps[k].1 : Int) by simp [rdAt]] at x1
        rw [show (rdV r.ps)[k] = r.ps[k].2 by simp [rdV]] at x2
        have HT := hid (rdSet_take r.b r.ps k hkps)
        rw [HL.out] at hfit
        generalize r.ps[k] = q at *
        obtain ⟨gb, cb', eb, _⟩ := (Sk.ownAt 1 rfl).form (by rw [rdSet_len, HL.out]; omega)
        have eb2 : ab = some ⟨gb, 0, none⟩ := by injection eb
        subst eb2
        have i3 := fun wx => idx_own gb L cb q.1 (q.1 : Int) rfl hfit wx
        have c0 := Sk.cell 0 rfl 0 rfl
        have c2 := Sk.cell 0 rfl 2 rfl
        have hown := Sk.ownAt 1 rfl
        have x3 := hown.cellAt (by rw [rdSet_len]; exact HL.out) q.1 (by rw [rdSet_len, HL.out]; exact hfit)
        have f3 := hown.frz (by rw [rdSet_len]; exact HL.out) q.1
        have S5 := (Sk.drew).setByte 1 rfl (k := q.1) q.2
        rw [bv_def] at x3 S5
        clear q1 q2 q3 q4 q5 y1 y2 y3 y4 y5 eb hown
        generalize q.2 = x at *
        generalize q.1 = pos at *
        go_wp2_with fail
        go_region_law (fail)
        all_goals (
          go_wp2
          go_roundw
          case rel => exact ⟨k + 1, by omega, by omega, by go_num, St.conv S5 (by rw [HT.out]; rfl)⟩
          case measure => simp [intOf]; omega)
      · have g2 : decide ((k : Int) < keep) = false := decide_eq_false hkp
        have c2 := Sk.cell 0 rfl 2 rfl
        have cf1 := Sk.frozen 0 rfl 1
        have cf2 := Sk.frozen 0 rfl 2
        go_wp2
        refine bodyPost_end (results_none rfl _ _ _) rfl ⟨rfl, Fin.out _ ((Sk.setCell 0 rfl 1 (.slice none 0 0)).setCell 0 rfl 2 (.slice none 0 0)) ?_⟩
        rw [show k = keep.toNat by omega]
    · have c2 := Sk.cell 0 rfl 2 rfl
      have cf1 := Sk.frozen 0 rfl 1
      have cf2 := Sk.frozen 0 rfl 2
      go_wp2
      refine bodyPost_end (results_none rfl _ _ _) rfl ⟨rfl, Fin.out _ ((Sk.setCell 0 rfl 1 (.slice none 0 0)).setCell 0 rfl 2 (.slice none 0 0)) ?_⟩
      have := HN.out
      rw [List.take_of_length_le (by omega), List.take_of_length_le (by omega)]

theorem rdsync_any (S : St w0 w (rdT p r :: tl)) (hps : r.ps.length ≤ 100000000) (hs : r.syncs < 1000000000) :
    Calls Try.prog 48 #[p] w fun e w' => e = .returned (.tuple #[]) ∧ St w0 w' (rdT p r.sync :: tl) := by
  obtain ⟨hok, g, vb, va, vv, rfl, S1⟩ := S.rdOpen
  have lA : (rdAt r.ps).length = r.ps.length := by simp [rdAt]
  obtain ⟨a1, n1, rfl⟩ := S1.writtenG eIok 2 rfl lA
  have c1 := S1.cell 0 rfl 1 rfl
  clear lA hok
  go_enter Try.func48, Try.ntmps48
  go_wp2_with fail
  refine (rdcrash_any S r.ps.length hps).mono ?_
  rintro e w1 ⟨rfl, S2⟩
  clear c1
  obtain ⟨hok, g', vb', va', vv', ep, S3⟩ := S2.rdOpen
  have hg : g = g' := by injection ep with h; injection h with h; injection h
  subst hg
  have c3 : w1.cell? ⟨g, 3, none⟩ = some (.int .i64 (r.syncs : Int)) := S3.cell 0 rfl 3 rfl
  have f3 := S3.frozen 0 rfl 3
  go_wp2
  refine bodyPost_end (results_none rfl _ _ _) rfl ⟨rfl, ?_⟩
  have S4 := S3.setCell 0 rfl 3 (.int .i64 ((r.syncs : Int) + 1))
  have e : r.sync = ⟨(r.crash r.ps.length).b, [], r.syncs + 1⟩ := by unfold RD.sync RD.crash; simp
  rw [e]
  exact St.rdShut (r := ⟨(r.crash r.ps.length).b, [], r.syncs + 1⟩) S4 ⟨fun q hq => by simp at hq, hok.big⟩

set_option maxRecDepth 10000 in
set_option maxHeartbeats 1600000 in
theorem rdbytes_any (S : St w0 w (rdT p r :: tl)) (n : Nat) (hn : r.b.length = n) (hps : r.ps.length ≤ 100000000) :
    Calls Try.prog 26 #[p] w fun e w' => ∃ a c, e = .returned (.slice a n c) ∧ St w0 w' (bytesT (.slice a n c) r.bytes :: rdT p r :: tl) ∧ Below w.heap.size w w' := by
  obtain ⟨hok, g, vb, va, vv, rfl, S1⟩ := S.rdOpen
  have HOk := hid hok
  have HX : Hid (#[].toList = ([] : List UInt8).map bv) := rfl
  obtain ⟨N, hN⟩ : ∃ N, r.ps.length = N := ⟨_, rfl⟩
  have lA : (rdAt r.ps).length = N := by simp [rdAt, hN]
  have lV : (rdV r.ps).length = N := by simp [rdV, hN]
  have HN := hid hN
  obtain ⟨ab, cb, rfl⟩ := S1.written 1 rfl hn
  have HL := hid hn
  obtain ⟨a1, n1, rfl⟩ := S1.writtenG eIok 2 rfl lA
  obtain ⟨a2, n2, rfl⟩ := S1.written 3 rfl lV
  have hbg := hok.big
  have c0 := S1.cell 0 rfl 0 rfl
  have ca : ∀ o : Obj, (w.alloc o).cell? ⟨g, 0, none⟩ = _ := fun o => (S1.alloc o).cell 0 rfl 0 rfl
  have HA1 := hid lA
  have HV1 := hid lV
  clear hN lA lV hok hn
  go_enter Try.func26, Try.ntmps26
  go_wp2_with (at_builtin; refine wpList_app (by rfl) (.tmp 5) (.tmp 9) 27 27 27 rfl rfl _ _ rfl rfl (run_both ((S1.bytes (own_new w w.heap.size [] _ 0 rfl HX.out (by unfold maxLen; simp) (Nat.le_refl _)) ((Below.refl _ _).alloc (Nat.le_refl _) _)).rot.app 0 rfl ab r.b n cb HL.out (by exact (S1.alloc _).at 1 rfl) n (by simp) (by have := HL.out; omega))
    (((St.start w).bytes (own_new w w.heap.size [] _ 0 rfl HX.out (by unfold maxLen; simp) (Nat.le_refl _)) ((Below.refl _ _).alloc (Nat.le_refl _) _)).app 0 rfl ab r.b n cb HL.out (by exact (S1.alloc _).at 1 rfl) n (by simp) (by have := HL.out; omega))) ?_; rintro v2 w2 ⟨⟨⟨ao, co, rfl⟩, S2⟩, -, T2⟩)
  rw [List.nil_append] at S2 T2
  clear c0 ca
  go_loopw [4] (fun q wr => ∃ k : Nat, k ≤ N ∧ q = .int .i64 k ∧ St w0 wr (bytesT (.slice ao n co) (rdSet r.b (r.ps.take k)) :: cellsT g 82 [.slice ab n cb, .slice a1 N n1, .slice a2 N n2, .int .i64 (r.syncs : Int)] :: bytesT (.slice ab n cb) r.b :: ownT eI (.slice a1 N n1) (rdAt r.ps) :: bytesT (.slice a2 N n2) (rdV r.ps) :: tl) ∧ St w wr [bytesT (.slice ao n co) (rdSet r.b (r.ps.take k))]) (fun q _ => N - (intOf q).toNat)
  case atStart => exact ⟨0, Nat.zero_le _, rfl, S2, T2⟩
  case round =>
    obtain ⟨k, hk, rfl, Sk, Tk⟩ := hrel
    have c1 := Sk.cell 1 rfl 1 rfl
    by_cases hlt : k < N
    · have g1 : decide (k < N) = true := decide_eq_true hlt
      have hkps : k < r.ps.length := by rw [HN.out]; exact hlt
      obtain ⟨q1, q2, q3, q4, q5⟩ := Sk.slG eIok 3 rfl
      obtain ⟨y1, y2, y3, y4, y5⟩ := Sk.slA 4 rfl
      have i1 := fun wx => idxI a1 N n1 (fun h => q5.ok (by omega)) k k rfl hlt wx
      have i2 := fun wx => idx_at a2 N n2 (fun h => y5.ok (by omega)) k k rfl hlt wx
      have hfit := HOk.out.fit _ (List.getElem_mem hkps)
      have hkA : k < (rdAt r.ps).length := by omega
      have hkV : k < (rdV r.ps).length := by omega
      have x1 := q5.cellI hkA
      have x2 := y5.cell hkV
      rw [show (rdAt r.ps)[k] = (r.ps[k].1 : Int) by simp [rdAt]] at x1
      rw [show (rdV r.ps)[k] = r.ps[k].2 by simp [rdV]] at x2
      have HT := hid (rdSet_take r.b r.ps k hkps)
      rw [HL.out] at hfit
      generalize r.ps[k] = q at *
      obtain ⟨gb, cb', eb, _⟩ := (Sk.ownAt 0 rfl).form (by rw [rdSet_len, HL.out]; omega)
      have eb2 : ao = some ⟨gb, 0, none⟩ := by injection eb
      subst eb2
      have i3 := fun wx => idx_own gb n co q.1 (q.1 : Int) rfl hfit wx
      have c2 := Sk.cell 1 rfl 2 rfl
      have hown := Sk.ownAt 0 rfl
      have x3 := hown.cellAt (by rw [rdSet_len]; exact HL.out) q.1 (by rw [rdSet_len, HL.out]; exact hfit)
      have f3 := hown.frz (by rw [rdSet_len]; exact HL.out) q.1
      have S5 := (Sk.drew).setByte 0 rfl (k := q.1) q.2
      have T5 := (Tk.drew).setByte 0 rfl (k := q.1) q.2
      rw [bv_def] at x3 S5 T5
      clear q1 q2 q3 q4 q5 y1 y2 y3 y4 y5 eb hown
      generalize q.2 = x at *
      generalize q.1 = pos at *
      go_wp2_with fail
      go_region_law (fail)
      all_goals (
        go_wp2
        go_roundw
        case rel => exact ⟨k + 1, by omega, by go_num, St.conv S5 (by rw [HT.out]; rfl), St.conv T5 (by rw [HT.out]; rfl)⟩
        case measure => simp [intOf]; omega)
    · have ek : Hid (r.ps.take k = r.ps) := by rw [Hid]; have := HN.out; exact List.take_of_length_le (by omega)
      go_wp2
      go_ret
      refine ⟨_, _, rfl, ?_⟩
      rw [ek.out] at Sk
      have S6 := (((Sk.front 4 rfl).front 4 rfl).front 4 rfl).front 4 rfl
      exact ⟨(St.rdShut (r := r) S6 HOk.out).swap, Tk.fin⟩
end

end Go.Proofs.Ytmfbbonppmhabaa

namespace Go.Proofs.Ytmfbbonppmhabaa
set_option linter.unusedVariables false
set_option linter.unusedSimpArgs false
open Go.RowKit

def pairs (k : Nat) (l : List UInt8) : List (Nat × UInt8) := (List.range l.length).map fun i => (k + i, l.getD i 0)
def flatW (ws : List (Nat × List UInt8)) : List (Nat × UInt8) := ws.flatMap fun x => pairs x.1 x.2
theorem pairs_nil (k : Nat) : pairs k [] = [] := rfl
theorem pairs_cons (k : Nat) (c : UInt8) (l : List UInt8) : pairs k (c :: l) = (k, c) :: pairs (k + 1) l := by
  unfold pairs
  rw [List.length_cons, List.range_succ_eq_map, List.map_cons, List.map_map]
  simp only [Function.comp_def, Nat.add_zero, List.getD_cons_zero, List.cons.injEq, true_and]
  apply List.map_congr_left
  intro i _
  simp only [List.getD_cons_succ, Prod.mk.injEq, and_true]; omega
theorem pairs_len (k : Nat) (l : List UInt8) : (pairs k l).length = l.length := by simp [pairs]
theorem pairs_take : ∀ (l : List UInt8) (k m : Nat), (pairs k l).take m = pairs k (l.take m)
  | [], k, m => by simp [pairs_nil]
  | c :: l, k, 0 => by simp [pairs_nil]
  | c :: l, k, m + 1 => by rw [pairs_cons, List.take_succ_cons, List.take_succ_cons, pairs_cons, pairs_take l]
theorem rdSet_app (b : List UInt8) (x y : List (Nat × UInt8)) : rdSet b (x ++ y) = rdSet (rdSet b x) y := by unfold rdSet; rw [List.foldl_append]
theorem set_splice {b : List UInt8} {k : Nat} (c : UInt8) (l : List UInt8) (h : k + (l.length + 1) ≤ b.length) : splice (b.set k c) (k + 1) l = splice b k (c :: l) := by
  have e : b.set k c = splice b k [c] := by
    unfold splice
    rw [List.set_eq_take_append_cons_drop, if_pos (by omega)]
    simp
  rw [e]
  exact (splice_app (a := [c]) (b := l) (by simpa [Nat.add_comm] using h)).symm
theorem rdSet_pairs : ∀ (l : List UInt8) (k : Nat) (b : List UInt8), k + l.length ≤ b.length → rdSet b (pairs k l) = splice b k l
  | [], k, b, _ => by rw [pairs_nil, splice_nil]; rfl
  | c :: l, k, b, h => by
    rw [pairs_cons]
    show rdSet (b.set k c) (pairs (k + 1) l) = _
    rw [List.length_cons] at h
    rw [rdSet_pairs l (k + 1) _ (by rw [List.length_set]; omega), set_splice c l (by omega)]
theorem dAll_flat : ∀ (ws : List (Nat × List UInt8)) (l : List UInt8), (∀ x ∈ ws, x.1 + x.2.length ≤ l.length) → dAll l ws = rdSet l (flatW ws)
  | [], l, _ => rfl
  | x :: ws, l, h => by
    have h1 := h x (by simp)
    rw [dAll, flatW, List.flatMap_cons, rdSet_app, rdSet_pairs _ _ _ h1]
    exact dAll_flat ws _ (by intro y hy; rw [splice_len h1]; exact h y (by simp [hy]))
theorem dDone_flat : ∀ (ws : List (Nat × List UInt8)) (l : List UInt8) (keep : Int), (∀ x ∈ ws, x.1 + x.2.length ≤ l.length) → dDone l keep ws = rdSet l ((flatW ws).take keep.toNat)
  | [], l, keep, _ => by simp [dDone, flatW, rdSet]
  | x :: ws, l, keep, h => by
    have h1 := h x (by simp)
    have h2 : x.1 + (x.2.take (min keep (x.2.length : Int)).toNat).length ≤ l.length := by rw [List.length_take]; omega
    rw [dDone, flatW, List.flatMap_cons, List.take_append, rdSet_app, pairs_take, pairs_len]
    have e : x.2.take keep.toNat = x.2.take (min keep (x.2.length : Int)).toNat := by
      by_cases hk : keep ≤ x.2.length
      · rw [Int.min_eq_left hk]
      · rw [List.take_of_length_le (by omega), List.take_of_length_le (by omega)]
    rw [e, rdSet_pairs _ _ _ h2]
    rw [dDone_flat ws _ _ (by intro y hy; rw [splice_len h2]; exact h y (by simp [hy]))]
    congr 2
    omega
theorem dWaits_flat : ∀ ws : List (Nat × List UInt8), dWaits ws = (flatW ws).length
  | [] => rfl
  | x :: ws => by rw [dWaits, dWaits_flat ws, flatW, flatW, List.flatMap_cons, List.length_append, pairs_len]

/-- One disk, told in two ways. -/
structure Rel (d : DSt) (r : RD) : Prop where
  b : r.b = d.lasts
  ps : r.ps = flatW d.waits
  syncs : r.syncs = d.syncs
theorem Rel.new (n : Nat) : Rel (DSt.new n) ⟨List.replicate n 0, [], 0⟩ := ⟨rfl, rfl, rfl⟩
section
variable {d : DSt} {r : RD}
theorem Rel.bytes (h : Rel d r) (hf : ∀ x ∈ d.waits, x.1 + x.2.length ≤ d.lasts.length) : r.bytes = d.bytes := by
  unfold RD.bytes DSt.bytes; rw [h.b, h.ps, dAll_flat _ _ hf]
theorem Rel.write (h : Rel d r) (a : Int) (l : List UInt8) : Rel (d.write a l) (r.write a l) := by
  unfold DSt.write RD.write
  by_cases hc : d.can a l.length = 0
  · have hz := DSt.can_zero hc
    rw [if_pos hc, if_neg (by rw [h.b]; omega)]
    exact ⟨h.b, by show r.ps ++ _ = _; rw [h.ps, flatW, flatW, List.flatMap_append]; simp [pairs], h.syncs⟩
  · rw [if_neg hc]
    have : a < 0 ∨ (r.b.length : Int) < a + l.length := by
      rw [h.b]
      unfold DSt.can at hc
      by_cases h0 : a < 0
      · exact .inl h0
      · rw [if_neg h0] at hc
        split at hc
        · omega
        · exact absurd rfl hc
    rw [if_pos this]
    exact h
theorem Rel.crash (h : Rel d r) (keep : Int) (hf : ∀ x ∈ d.waits, x.1 + x.2.length ≤ d.lasts.length) : Rel (d.crash keep) (r.crash keep) :=
  ⟨by show rdSet r.b _ = dDone _ _ _; rw [h.b, h.ps, dDone_flat _ _ _ hf], rfl, h.syncs⟩
theorem Rel.sync (h : Rel d r) (hf : ∀ x ∈ d.waits, x.1 + x.2.length ≤ d.lasts.length) : Rel d.sync r.sync :=
  ⟨by show rdSet r.b r.ps = dDone _ _ _; rw [h.b, h.ps, dDone_flat _ _ _ hf, Int.toNat_natCast, dWaits_flat, List.take_length], rfl, by show r.syncs + 1 = d.syncs + 1; rw [h.syncs]⟩
theorem Rel.waits (h : Rel d r) : (dWaits d.waits : Int) = (rdAt r.ps).length := by rw [dWaits_flat, h.ps]; simp [rdAt]
end

end Go.Proofs.Ytmfbbonppmhabaa
