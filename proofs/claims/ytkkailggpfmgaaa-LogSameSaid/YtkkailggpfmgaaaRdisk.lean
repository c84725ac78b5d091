/- The document's disk (dunnageref04): its walks. -/
import Derived.Test.YtkkailggpfmgaaaDiskSep
import Derived.Test.YtkkailggpfmgaaaCodeWalk
namespace Go.Proofs.Ytkkailggpfmgaaa
set_option linter.unusedVariables false
set_option linter.unusedSimpArgs false
open Go.RowKit

/-- What lasts, the places and bytes that wait, how often it was synced. -/
structure RD where
  b : List UInt8
  ps : List (Nat × UInt8)
  syncs : Nat
def rdAt (ps : List (Nat × UInt8)) : List Int := ps.map fun p => (p.1 : Int)
def rdV (ps : List (Nat × UInt8)) : List UInt8 := ps.map (·.2)
def rdSet (b : List UInt8) (ps : List (Nat × UInt8)) : List UInt8 := ps.foldl (fun b p => b.set p.1 p.2) b
def RD.write (r : RD) (at_ : Int) (l : List UInt8) : RD := if at_ < 0 ∨ (r.b.length : Int) < at_ + l.length then r else { r with ps := r.ps ++ (List.range l.length).map fun i => (at_.toNat + i, l.getD i 0) }
def RD.crash (r : RD) (keep : Int) : RD := ⟨rdSet r.b (r.ps.take keep.toNat), [], r.syncs⟩
def RD.sync (r : RD) : RD := ⟨rdSet r.b r.ps, [], r.syncs + 1⟩
def RD.bytes (r : RD) : List UInt8 := rdSet r.b r.ps
structure RD.Ok (r : RD) : Prop where
  fit : ∀ p ∈ r.ps, p.1 < r.b.length
  big : r.b.length ≤ 65536

/-- The parts of a disk: its own cells, what lasts, the places, the bytes. -/
def rdParts (r : RD) (g : Nat) (vb va vv : Value) : Thing := sepT (sepT (sepT (cellsT g 88 [vb, va, vv, .int .i64 (r.syncs : Int)]) (bytesT vb r.b)) (ownT eI va (rdAt r.ps))) (bytesT vv (rdV r.ps))
/-- The disk `r` behind `p`. -/
def rdT (p : Value) (r : RD) : Thing := andT r.Ok (exT fun g => exT fun vb => exT fun va => exT fun vv => andT (p = .pointer (some ⟨g, 0, none⟩)) (rdParts r g vb va vv))
section
variable {w0 w : World} {tl : List Thing} {p : Value} {r : RD}
theorem St.rdOpen (S : St w0 w (rdT p r :: tl)) : r.Ok ∧ ∃ g vb va vv, p = .pointer (some ⟨g, 0, none⟩) ∧ St w0 w (cellsT g 88 [vb, va, vv, .int .i64 (r.syncs : Int)] :: bytesT vb r.b :: ownT eI va (rdAt r.ps) :: bytesT vv (rdV r.ps) :: tl) := by
  obtain ⟨h, S1⟩ := S.andF
  obtain ⟨g, S1⟩ := S1.exF
  obtain ⟨vb, S1⟩ := S1.exF
  obtain ⟨va, S1⟩ := S1.exF
  obtain ⟨vv, S1⟩ := S1.exF
  obtain ⟨e, S3⟩ := S1.andF
  exact ⟨h, g, vb, va, vv, e, S3.splitF.splitF.splitF⟩
theorem St.rdShut {g : Nat} {vb va vv : Value} (S : St w0 w (cellsT g 88 [vb, va, vv, .int .i64 (r.syncs : Int)] :: bytesT vb r.b :: ownT eI va (rdAt r.ps) :: bytesT vv (rdV r.ps) :: tl)) (h : r.Ok) : St w0 w (rdT (.pointer (some ⟨g, 0, none⟩)) r :: tl) :=
  St.andI h (St.exI g (St.exI vb (St.exI va (St.exI vv (St.andI rfl S.joinF.joinF.joinF)))))

set_option maxRecDepth 10000 in
theorem rdnew_any (S : St w0 w tl) (n : Nat) (h2 : n ≤ 65536) :
    Calls Try.prog 24 #[.int .i64 n] w fun e w' => ∃ p, e = .returned p ∧ St w0 w' (rdT p ⟨List.replicate n 0, [], 0⟩ :: tl) ∧ Below w.heap.size w w' := by
  go_enter Try.func24, Try.ntmps24
  go_wp2_with (at_make; refine wpList_make (by rfl) (.tmp 3) (.tmp 3) 32 rfl _ _ rfl rfl (run_make _ n (by omega)) ?_; rintro v2 w2 ⟨rfl, hown2, hb2⟩; have HO2 := hid hown2; have HB2 := hid hb2; clear hown2 hb2)
  go_ret
  refine ⟨_, rfl, ?_, HB2.out.trans (((Below.refl _ _).alloc (Nat.le_refl _) _).mono HB2.out.size)⟩
  have S1 := ((S.nil.rot.nilG eI).rot.bytes HO2.out HB2.out).rot
  have S2 := (S1.newCells 88 #[.slice (some ⟨w.heap.size, 0, none⟩) n n, .slice none 0 0, .slice none 0 0, .int .i64 0]).rot
  exact St.rdShut (r := ⟨List.replicate n 0, [], 0⟩) S2 ⟨by simp, by simp; exact h2⟩

theorem at_len {a : Option Addr} {c n : Nat} {l : List UInt8} {w : World} {B : Nat} (h : Own w B (.slice a n c) l) : l.length = n := by
  obtain ⟨a', c', e, _⟩ := OwnG.at eBok ((ownB _ _ _ _).2 h)
  cases e; rfl

theorem rdV_write (ps : List (Nat × UInt8)) (l : List UInt8) (k0 : Nat) {k : Nat} (hk : l.length = k) : rdV (ps ++ (List.range k).map fun i => (k0 + i, l.getD i 0)) = rdV ps ++ l.take k := by
  subst hk
  unfold rdV
  rw [List.map_append]
  congr 1
  apply List.ext_getElem
  · simp
  · intro i h1 h2
    simp at h1
    simp [h1]
theorem rdEnd {g : Nat} {T : TypeId} {v0 v3 y1 y2 : Value} {r : RD} {l LV : List UInt8} {LA : List Int} {k k0 : Nat} {x : UInt8} {B : Thing} {tl : List Thing} (h1 : (rdAt r.ps ++ (List.range k).map fun i => ((k0 + i : Nat) : Int)) = LA) (h2 : rdV r.ps ++ l.take k = LV) (hk : k < l.length) (hx : l[k] = x) :
    (cellsT g T [v0, y1, y2, v3] :: B :: ownT eI y1 (LA ++ [(k0 : Int) + (k : Int)]) :: bytesT y2 (LV ++ [x]) :: tl) = (cellsT g T [v0, y1, y2, v3] :: B :: ownT eI y1 (rdAt r.ps ++ (List.range (k + 1)).map fun i => ((k0 + i : Nat) : Int)) :: bytesT y2 (rdV r.ps ++ l.take (k + 1)) :: tl) := by
  subst h1 h2 hx
  rw [List.range_succ, List.map_append, List.take_succ_eq_append_getElem hk, ← List.append_assoc, ← List.append_assoc]
  rfl
set_option maxRecDepth 10000 in
set_option maxHeartbeats 1600000 in
theorem rdwrite_any (S : St w0 w (rdT p r :: tl)) (at_ : Int) (a : Option Addr) (l : List UInt8) (n cap : Nat) (c : Int) (hc : (if at_ < 0 then 1 else if (r.b.length : Int) < at_ + n then 3 else 0) = c) (hn : l.length = n) (hm : n ≤ 65536) (hps : r.ps.length ≤ 100000000) (hA : Reads w0 tl a l) :
    Calls Try.prog 60 #[p, .int .i64 at_, .slice a n cap] w fun e w' => e = .returned (.int .i64 c) ∧ St w0 w' (rdT p (r.write at_ l) :: tl) := by
  obtain ⟨hok, g, vb, va, vv, rfl, S1⟩ := S.rdOpen
  have HC := hid hc
  have HN := hid hn
  have HA := hid hA
  have HOk := hid hok
  obtain ⟨ab, cb, eb, hb1, hb2, hb3, hb4⟩ := S1.sl 1 rfl
  subst eb
  have hbig := hok.big
  have c0 := S1.cell 0 rfl 0 rfl
  have c1 := S1.cell 0 rfl 1 rfl
  have c2 := S1.cell 0 rfl 2 rfl
  clear hc hn hA hok hb4 hb3
  generalize hL : r.b.length = L at *
  have HL := hid hL
  clear hL
  by_cases q0 : at_ < 0
  · go_enter Try.func60, Try.ntmps60
    go_wp2
    go_ret
    have e : r.write at_ l = r := by unfold RD.write; rw [if_pos (.inl q0)]
    rw [e, ← HC.out, if_pos q0]
    exact ⟨rfl, S⟩
  · obtain ⟨k0, rfl⟩ := Int.eq_ofNat_of_zero_le (show 0 ≤ at_ by omega)
    by_cases q1 : L < k0 + n
    · by_cases q2 : L < k0
      · have g1 : decide ((L : Int) < (k0 : Int)) = true := decide_eq_true (by omega)
        go_enter Try.func60, Try.ntmps60
        go_wp2
        go_ret
        have e : r.write (k0 : Int) l = r := by unfold RD.write; rw [if_pos (.inr (by rw [HL.out, HN.out]; omega))]
        rw [e, ← HC.out, if_neg (by omega), if_pos (by omega)]
        exact ⟨rfl, S⟩
      · have g1 : decide ((L : Int) < (k0 : Int)) = false := decide_eq_false (by omega)
        have g2 : decide ((L : Int) - (k0 : Int) < (n : Int)) = true := decide_eq_true (by omega)
        go_enter Try.func60, Try.ntmps60
        go_wp2
        go_ret
        have e : r.write (k0 : Int) l = r := by unfold RD.write; rw [if_pos (.inr (by rw [HL.out, HN.out]; omega))]
        rw [e, ← HC.out, if_neg (by omega), if_pos (by omega)]
        exact ⟨rfl, S⟩
    · have g1 : decide ((L : Int) < (k0 : Int)) = false := decide_eq_false (by omega)
      have g2 : decide ((L : Int) - (k0 : Int) < (n : Int)) = false := decide_eq_false (by omega)
      go_enter Try.func60, Try.ntmps60
      go_wp2_with fail
      clear c1 c2
      go_loopw [7] (fun q wr => ∃ (k : Nat) (va vv : Value), k ≤ n ∧ q = .int .i64 k ∧ St w0 wr (cellsT g 88 [.slice ab L cb, va, vv, .int .i64 (r.syncs : Int)] :: bytesT (.slice ab L cb) r.b :: ownT eI va (rdAt r.ps ++ (List.range k).map fun i => ((k0 + i : Nat) : Int)) :: bytesT vv (rdV r.ps ++ l.take k) :: tl)) (fun q _ => n - (intOf q).toNat)
      case atStart => exact ⟨0, va, vv, Nat.zero_le _, rfl, by simpa using S1⟩
      case round =>
        obtain ⟨k, va, vv, hk, rfl, Sk⟩ := hrel
        by_cases hlt : k < n
        · have hkl : k < l.length := by rw [HN.out]; exact hlt
          have lA : (rdAt r.ps ++ (List.range k).map fun i => ((k0 + i : Nat) : Int)).length + 1 = r.ps.length + k + 1 := by simp [rdAt]
          have lV : (rdV r.ps ++ l.take k).length + 1 = r.ps.length + k + 1 := by simp [rdV]; omega
          obtain ⟨a1, n1, e1, hh1, hh2, hh3, hh4, _⟩ := (Sk.head 2 rfl).choose_spec.1.at eIok
          obtain ⟨a2, n2, e2, _⟩ := Sk.sl 3 rfl
          rw [show (rdAt r.ps ++ (List.range k).map fun i => ((k0 + i : Nat) : Int)).length = r.ps.length + k by omega] at e1
          rw [show (rdV r.ps ++ l.take k).length = r.ps.length + k by omega] at e2
          subst e1 e2
          obtain ⟨M, hM⟩ : ∃ M, r.ps.length + k = M := ⟨_, rfl⟩
          rw [hM] at Sk
          have HM := hid hM
          rw [hM] at lA lV
          have hMb : M ≤ 200000000 := by omega
          have HLA := hid lA
          have HLV := hid lV
          have i0 := fun wx => idx_at a n cap (fun h => (HA.out wr [_, _, _, _] Sk).ok (by omega)) k k rfl hlt wx
          obtain ⟨x, hx⟩ : ∃ x, l[k] = x := ⟨_, rfl⟩
          have HX := hid hx
          have c1 := Sk.cell 0 rfl 1 rfl
          clear hh1 hh2 hh3 hh4 hM lA lV hx
          generalize hga : (rdAt r.ps ++ (List.range k).map fun i => ((k0 + i : Nat) : Int)) = LA at *
          generalize hgv : rdV r.ps ++ l.take k = LV at *
          have HGA := hid hga
          have HGV := hid hgv
          clear hga hgv
          go_wp2_with (at_builtin; refine wpList_app (by rfl) (.tmp 39) (.tmp 43) 86 86 86 rfl rfl _ _ rfl rfl (Sk.appG1 eIok wr.heap.size rfl 2 rfl ((k0 : Int) + (k : Int)) _ (by rfl) (M + 1) HLA.out (by show (M + 1) * 8 ≤ _; omega) (by unfold maxLen; omega)) ?_; rintro v3 w3 ⟨⟨a3, n3, rfl⟩, S3⟩; have f3 := S3.frozen 0 rfl 1; have d3 := S3.cell 0 rfl 1 rfl)
          have S4 := S3.setCell 0 rfl 1 (.slice a3 (M + 1) n3)
          clear f3 d3
          generalize w3.setCell ⟨g, 1, none⟩ _ = w4 at S4 ⊢
          have c2 := S4.cell 0 rfl 2 rfl
          have ca : ∀ o : Obj, (w4.alloc o).cell? ⟨g, 2, none⟩ = _ := fun o => (S4.alloc o).cell 0 rfl 2 rfl
          have x2 : w4.cell? (adr a k) = some (.int .u8 (x.toNat : Int)) := by rw [← HX.out]; exact (HA.out w4 [_, _, _, _] S4).cell hkl
          go_region_law (first
            | (refine step_app (by rfl) (.tmp 51) (.tmp 56) 32 32 32 rfl rfl _ _ rfl rfl (S4.drew.app1 _ rfl 3 rfl x _ (by rfl) (M + 1) HLV.out (by omega)) ?_; rintro v5 w5 ⟨⟨a5, n5, rfl⟩, S5⟩; have f5 := S5.frozen 0 rfl 2; have d5 := S5.cell 0 rfl 2 rfl)
            | fail)
          all_goals (
            go_wp2
            go_roundw
            case rel => exact ⟨k + 1, _, _, by omega, by go_num, St.conv (S5.setCell 0 rfl 2 (.slice a5 (M + 1) n5)) (rdEnd HGA.out HGV.out hkl HX.out)⟩
            case measure => simp [intOf]; omega)
        · have ek : k = n := by omega
          have HE := hid ek
          clear ek
          go_wp2
          go_ret
          have ek := HE.out
          subst ek
          have e : r.write (k0 : Int) l = ⟨r.b, r.ps ++ (List.range k).map fun i => (k0 + i, l.getD i 0), r.syncs⟩ := by
            unfold RD.write; rw [if_neg (by rw [HL.out, HN.out]; omega), HN.out]; rfl
          rw [e, ← HC.out, if_neg (by omega), if_neg (by omega)]
          refine ⟨rfl, St.rdShut (r := ⟨r.b, r.ps ++ (List.range k).map fun i => (k0 + i, l.getD i 0), r.syncs⟩) (vb := .slice ab L cb) (va := va) (vv := vv) (St.conv Sk ?_) ⟨?_, HOk.out.big⟩⟩
          · have e1 : rdAt (r.ps ++ (List.range k).map fun i => (k0 + i, l.getD i 0)) = rdAt r.ps ++ (List.range k).map fun i => ((k0 + i : Nat) : Int) := by simp [rdAt, Function.comp_def]
            have e2 := rdV_write r.ps l k0 HN.out
            simp only [e1, e2]
          · intro q hq
            rcases List.mem_append.1 hq with h | h
            · exact HOk.out.fit q h
            · obtain ⟨i, hi, rfl⟩ := List.mem_map.1 h
              have := List.mem_range.1 hi
              have := HL.out
              show k0 + i < r.b.length
              omega

end

end Go.Proofs.Ytkkailggpfmgaaa
