/- strings.Builder: copyCheck, WriteString over things. dial.Text's closure: words put into a builder. dial.numbers, dial.told at the example's dial. dial.Text at the example's dial. -/
import Derived.Test.YtjfbmgndekfglaaDoorDialReads
import Derived.Shelf.Strings.Builder1
namespace Go.Proofs.YtjfbmgndekfglaaDoor
set_option linter.unusedVariables false
set_option linter.unusedSimpArgs false
open Go.RowKit
theorem St.shape {w0 w : World} {l : List Thing} (S : St w0 w l) (k : Nat) {g : Nat} {T : TypeId} {cs : List Value} (h : l[k]? = some (cellsT g T cs)) : w.shape? g = some (T, cs.length) := by
  have := S.heap k h
  simp [World.shape?, this]
set_option maxHeartbeats 1600000 in
set_option maxRecDepth 100000 in
theorem dCheck {w0 w : World} {tl : List Thing} (b : Nat) (p v : Value) (S : St w0 w (cellsT b 72 [p, v] :: tl)) (hp : p = .pointer none ∨ p = .pointer (some ⟨b, 0, none⟩)) :
    Calls Tryd.prog 46 #[.pointer (some ⟨b, 0, none⟩)] w fun e w' => e = .returned (.tuple #[]) ∧ St w0 w' (cellsT b 72 [.pointer (some ⟨b, 0, none⟩), v] :: tl) := by
  obtain ⟨j, hj, hjs⟩ := Option.map_eq_some_iff.1 (show (Tryd.prog.info? 72).map (·.size) = some 2 by kernel_rfl)
  have h0 := S.cell 0 rfl 0 rfl
  have f0 := S.frozen 0 rfl 0
  have hsh : w.shape? b = some (72, 2) := S.shape 0 rfl
  have S2 := S.setCell 0 rfl 0 (.pointer (some ⟨b, 0, none⟩))
  have HP : Hid (Tryd.prog.underlying 69 = some (.pointer 72)) := by rw [Hid]; kernel_rfl
  have HU : Hid (Tryd.prog.underlying 94 = some .unsafePointer) := by rw [Hid]; kernel_rfl
  have HJ := hid hj
  have HS := hid hjs
  have HSH := hid hsh
  clear hj hjs hsh
  rcases hp with rfl | rfl
  · go_enter Tryd.func46, Tryd.ntmps46
    go_wp2
    rw [Lib.run_to_unsafe w ⟨b, 0, none⟩ HP.out HU.out HJ.out (by rw [HS.out]; decide) HSH.out (Nat.zero_lt_succ 1)]
    simp only [Result.andThen]
    rw [Oper.upon_value]
    go_wp2
    rw [run_callFunc_extern Tryd.func52 (by kernel_rfl) (by kernel_rfl) (by kernel_rfl) (e := Extern.AbiNoEscape.same) (by kernel_rfl)]
    rw [Lib.run_noEscape]
    simp only [Result.andThen]
    rw [Oper.upon_value]
    go_wp2
    rw [Lib.run_from_unsafe w ⟨b, 0, none⟩ HU.out HP.out HJ.out HSH.out (by kernel_rfl)]
    simp only [Result.andThen]
    rw [Oper.upon_value]
    go_wp2
    go_end0
    exact ⟨rfl, S2⟩
  · go_enter Tryd.func46, Tryd.ntmps46
    go_wp2
    rw [Lib.run_neq_ptr_same w _ HP.out HJ.out]
    go_wp2
    go_end0
    exact ⟨rfl, S⟩
theorem str_blk (w : World) (B : Nat) (v : Value) (l : List UInt8) (hown : Own w B v l) (s : ByteArray) (hlen : l.length + s.size ≤ 140737488355328) {v' : Value} {w' : World} (hr : (Builtin.append_ #[70, 9] 70 #[v, .string s]).run Tryd.prog w = .ok v' w') : ∀ b, v'.ownBlock = some b → v.ownBlock = some b ∨ w.heap.size ≤ b := by
  obtain ⟨i, hi, hz0, hz1, hz2⟩ := info_parts infoB
  have hu : Tryd.prog.underlying 9 = some .string := by kernel_rfl
  have hxl : (l.map bv).length = l.length := List.length_map ..
  have hown2 : w.ownsRow B 5 1 v l.length (l.map bv) := hown
  rcases hown2.2 with ⟨rfl, h0⟩ | ⟨g, cap, cur, rfl, hbg, hg, hnc, hcm, hcs, htake⟩
  · by_cases hm : s.size = 0
    · have hf := Lib.run_firstCells_string (P := Tryd.prog) w 1 s
      rw [hm] at hf
      have h2 : (Builtin.append_ #[70, 9] 70 #[.slice none 0 0, .string s]).run Tryd.prog w = .ok (.slice none 0 0) w := by
        simp [Builtin.append_, run_underlying sliceB, run_underlying hu, sizeOf, typeInfo, hi, hz1, Builtin.lenOf, hm, hf]
      rw [hr] at h2
      injection h2 with h2 _
      subst h2
      intro b hb
      cases hb
    · have h2 := run_append_nil_string (P := Tryd.prog) w 70 9 70 5 i (.int .u8 0) sliceB hu hi hz0 s (by omega) (by omega) (by rw [hz2]; omega)
      rw [hr] at h2
      injection h2 with h2 _
      subst h2
      intro b hb
      right
      simp [Value.ownBlock] at hb
      omega
  · by_cases hroom : l.length + s.size ≤ cap
    · have hcs' : cur.size = cap := by simpa using hcs
      have h2 := Lib.run_append_room_string (P := Tryd.prog) w 70 9 70 5 i sliceB hu hi hz1 g l.length cap cur hg s hroom (by omega)
      rw [hr] at h2
      injection h2 with h2 _
      subst h2
      intro b hb
      exact .inl hb
    · have holds : ∀ j u, (l.map bv)[j]? = some u → w.cell? ((⟨g, 0, none⟩ : Addr).add j) = some u := hown2.cells (g := g) rfl
      have h2 := Lib.run_append_grow_string (P := Tryd.prog) w 70 9 70 5 i (.int .u8 0) sliceB hu hi hz0 ⟨g, 0, none⟩ l.length cap (l.map bv) (by rw [hz1]; simp) holds s (by omega) (by omega) (by rw [hz2]; exact growslice_fits (by omega) (by omega))
      rw [hr] at h2
      injection h2 with h2 _
      subst h2
      intro b hb
      right
      simp [Value.ownBlock] at hb
      omega
theorem St.appS {w0 w : World} {r : List Thing} (S : St w0 w r) (k : Nat) {v : Value} {l : List UInt8} (hk : r[k]? = some (bytesT v l)) (s : ByteArray) (hlen : l.length + s.size ≤ 140737488355328) :
    ∃ v' w', (Builtin.append_ #[70, 9] 70 #[v, .string s]).run Tryd.prog w = .ok v' w' ∧ St w0 w' (r.set k (bytesT v' (l ++ s.data.toList))) := by
  obtain ⟨F, ⟨h1, h2⟩, h3⟩ := S.step k hk
  obtain ⟨v', w', hr, ho, hg⟩ := run_str w w0.heap.size v l h1 s hlen S.size
  refine ⟨v', w', hr, h3 w' _ (fun b => v'.ownBlock = some b) ⟨ho, fun b => Iff.rfl⟩ ?_ ?_⟩
  · exact ⟨hg.os, hg.tape, hg.output, hg.size, fun k hk hF => hg.block k hk (fun e => hF ((h2 k).2 e.symm))⟩
  · intro b hb
    exact (str_blk w w0.heap.size v l h1 s hlen hr b hb).elim (fun h => .inl ((h2 b).2 h)) .inr
set_option maxHeartbeats 1600000 in
set_option maxRecDepth 10000 in
theorem dWrite {w0 w : World} {tl : List Thing} (b : Nat) (p v : Value) (l m : List UInt8) (S : St w0 w (cellsT b 72 [p, v] :: bytesT v l :: tl)) (hp : p = .pointer none ∨ p = .pointer (some ⟨b, 0, none⟩)) (hlen : l.length + m.length ≤ 1000000) :
    Calls Tryd.prog 34 #[.pointer (some ⟨b, 0, none⟩), sv m] w fun e w' => ∃ v', e = .returned (.tuple #[.int .i64 m.length, .nilIface]) ∧ St w0 w' (cellsT b 72 [.pointer (some ⟨b, 0, none⟩), v'] :: bytesT v' (l ++ m) :: tl) := by
  have HL : Hid (l.length + (⟨m.toArray⟩ : ByteArray).size ≤ 140737488355328) := by rw [Hid, sSize]; omega
  have hz : (⟨m.toArray⟩ : ByteArray).size = m.length := sSize m
  go_enter Tryd.func34, Tryd.ntmps34
  go_wp2_with fail
  refine (dCheck b p v S hp).mono ?_
  rintro e w1 ⟨rfl, S1⟩
  clear S hp
  have c1 := S1.cell 0 rfl 1 rfl
  have f1 := S1.frozen 0 rfl 1
  go_wp2_with (at_builtin; refine wpList_app (by rfl) (.tmp 12) (.tmp 13) 70 9 70 rfl rfl _ _ rfl rfl (S1.appS 1 rfl ⟨m.toArray⟩ HL.out) ?_; rintro v2 w2 S2; obtain ⟨a2, k2, rfl⟩ := S2.written 1 rfl (n := l.length + m.length) (by simp); have c2 := S2.cell 0 rfl 1 rfl; have f2 := S2.frozen 0 rfl 1; have S3 := S2.setCell 0 rfl 1 (.slice a2 (l.length + m.length) k2))
  go_ret2
  exact ⟨rfl, _, S3⟩
end Go.Proofs.YtjfbmgndekfglaaDoor

namespace Go.Proofs.YtjfbmgndekfglaaDoor
set_option linter.unusedVariables false
set_option linter.unusedSimpArgs false
open Go.RowKit
inductive WD where
  | s (m : List UInt8)
  | i (n : Nat)
def WD.v : WD → Value
  | .s m => .iface 9 (sv m)
  | .i n => .iface 3 (.int .i64 (n : Int))
def WD.out : WD → List UInt8
  | .s m => m
  | .i n => Lib.decDigits n
def eA : Elt WD := { T := 73, E := 20, s := 1, byt := 16, z := .nilIface, enc := fun x => [x.v] }
theorem eAok : eA.Ok := ⟨fun _ => rfl, fun x u hu => by simp [eA] at hu; subst hu; cases x <;> rfl, by decide, by kernel_rfl, by kernel_rfl, by rfl⟩
theorem idxA (g n : Nat) (k : Nat) (hk : k < n) (wx : World) : (Instr.indexAt 73 (.slice (some ⟨g, 0, none⟩) n n) (.int .i64 (k : Int))).run Tryd.prog wx = .ok (.pointer (some ⟨g, k, none⟩)) wx := by
  have h := idxG eAok (some ⟨g, 0, none⟩) n n (fun _ => rfl) k (k : Int) rfl hk wx
  rw [show eA.s = 1 from rfl, Nat.mul_one] at h
  simp only [adr, Option.getD_some, Addr.add_lit, Nat.zero_add] at h
  exact h
set_option maxRecDepth 10000 in
set_option maxHeartbeats 3200000 in
theorem dPut {w0 w : World} {tl : List Thing} (b gx n : Nat) (p v : Value) (l : List UInt8) (W : List WD) (hn : W.length = n) (S : St w0 w (cellsT b 72 [p, v] :: bytesT v l :: cellsT gx 20 (W.map WD.v) :: tl)) (hp : p = .pointer none ∨ p = .pointer (some ⟨b, 0, none⟩)) (hlen : l.length + (W.flatMap WD.out).length ≤ 1000000) (hn6 : n ≤ 1000)
    (hI : ∀ m : Nat, WD.i m ∈ W → ∀ wx, Below w0.heap.size w0 wx → Calls Tryd.prog 35 #[.int .i64 (m : Int)] wx fun e w' => e = .returned (sv (Lib.decDigits m)) ∧ Below wx.heap.size wx w') :
    Calls Tryd.prog 33 #[.slice (some ⟨gx, 0, none⟩) n n, .pointer (some ⟨b, 0, none⟩)] w fun e w' => ∃ p' v', e = .returned (.tuple #[]) ∧ (p' = .pointer none ∨ p' = .pointer (some ⟨b, 0, none⟩)) ∧ St w0 w' (cellsT b 72 [p', v'] :: bytesT v' (l ++ W.flatMap WD.out) :: cellsT gx 20 (W.map WD.v) :: tl) := by
  have HN := hid hn
  have HI := hid hI
  have HP := hid hp
  have HL := hid hlen
  clear hn hI hp hlen
  go_enter Tryd.func33, Tryd.ntmps33
  go_wp2_with fail
  go_loopw [9] (fun i wr => ∃ (k : Nat) (p' v' : Value), k ≤ n ∧ i = .int .i64 k ∧ (p' = .pointer none ∨ p' = .pointer (some ⟨b, 0, none⟩)) ∧ St w0 wr (cellsT b 72 [p', v'] :: bytesT v' (l ++ (W.take k).flatMap WD.out) :: cellsT gx 20 (W.map WD.v) :: tl)) (fun i _ => n - (intOf i).toNat)
  case atStart => exact ⟨0, p, v, Nat.zero_le _, rfl, HP.out, by simpa using S⟩
  case round =>
    obtain ⟨k, p', v', hk, rfl, hp', Sk⟩ := hrel
    have HP' := hid hp'
    clear hp' S HP
    by_cases hlt : k < n
    case neg =>
      have d1 : decide ((k : Int) < (n : Int)) = false := decide_eq_false (by omega)
      have d1n : decide (k < n) = false := decide_eq_false hlt
      have ht : W.take k = W := List.take_of_length_le (by rw [HN.out]; omega)
      rw [ht] at Sk
      clear ht
      have HS := hid (show ∃ p' v', (p' = .pointer none ∨ p' = .pointer (some ⟨b, 0, none⟩)) ∧ St w0 wr (cellsT b 72 [p', v'] :: bytesT v' (l ++ W.flatMap WD.out) :: cellsT gx 20 (W.map WD.v) :: tl) from ⟨p', v', HP'.out, Sk⟩)
      go_wp2
      obtain ⟨p9, v9, h9, S9⟩ := HS.out
      refine bodyPost_end (results_none rfl _ _ _) rfl ?_
      exact ⟨p9, v9, rfl, h9, S9⟩
    have d1 : decide ((k : Int) < (n : Int)) = true := decide_eq_true (by omega)
    have d1n : decide (k < n) = true := decide_eq_true hlt
    have hkl : k < W.length := by rw [HN.out]; exact hlt
    have i0 := fun wx => idxA gx n k hlt wx
    have c0 := Sk.cell 2 rfl k (v := W[k].v) (by rw [List.getElem?_map, List.getElem?_eq_getElem hkl]; rfl)
    have hwk : IntKind.i64.wrap ((k : Int) + 1) = (k : Int) + 1 := by rw [IntKind.wrap_i64]; omega
    have HT : Hid ((W.take (k + 1)).flatMap WD.out = (W.take k).flatMap WD.out ++ W[k].out) := by
      rw [Hid, ← List.take_append_getElem hkl, List.flatMap_append]
      simp
    have HB : Hid ((l ++ (W.take k).flatMap WD.out).length + W[k].out.length ≤ 1000000) := by
      rw [Hid]
      have h1 := congrArg List.length HT.out
      have h2 : ((W.take (k + 1)).flatMap WD.out).length ≤ (W.flatMap WD.out).length := by
        conv => rhs; rw [← List.take_append_drop (k + 1) W, List.flatMap_append, List.length_append]
        omega
      have h3 := HL.out
      rw [List.length_append] at h1 ⊢
      omega
    have HM : Hid (W[k] ∈ W) := List.getElem_mem hkl
    generalize W[k] = x at *
    cases x with
    | s m =>
      simp only [WD.v] at c0
      have ta : ∀ wx, (Instr.typeAssert (.iface 9 (sv m)) 20 9 true).run Tryd.prog wx = .ok (.tuple #[sv m, .bool true]) wx := fun _ => by kernel_rfl
      go_wp2_with fail
      refine (dWrite b p' v' _ m Sk HP'.out HB.out).mono ?_
      rintro e w2 ⟨v2, rfl, S2⟩
      rw [List.append_assoc] at S2
      go_wp2
      go_roundw
      case rel => exact ⟨k + 1, _, v2, by omega, by go_num, .inr rfl, by rw [HT.out]; exact S2⟩
      case measure => simp [intOf]; omega
    | i m =>
      simp only [WD.v] at c0
      have ta : ∀ wx, (Instr.typeAssert (.iface 3 (.int .i64 (m : Int))) 20 9 true).run Tryd.prog wx = .ok (.tuple #[.string ⟨#[]⟩, .bool false]) wx := fun _ => by kernel_rfl
      have tb : ∀ wx, (Instr.typeAssert (.iface 3 (.int .i64 (m : Int))) 20 3 true).run Tryd.prog wx = .ok (.tuple #[.int .i64 (m : Int), .bool true]) wx := fun _ => by kernel_rfl
      go_wp2_with fail
      refine (HI.out m HM.out _ Sk.fin).mono ?_
      rintro e w1 ⟨rfl, hb1⟩
      have S1 := Sk.grow hb1
      go_wp2_with fail
      refine (dWrite b p' v' _ (Lib.decDigits m) S1 HP'.out HB.out).mono ?_
      rintro e w2 ⟨v2, rfl, S2⟩
      rw [List.append_assoc] at S2
      go_wp2
      go_roundw
      case rel => exact ⟨k + 1, _, v2, by omega, by go_num, .inr rfl, by rw [HT.out]; exact S2⟩
      case measure => simp [intOf]; omega
end Go.Proofs.YtjfbmgndekfglaaDoor

namespace Go.Proofs.YtjfbmgndekfglaaDoor
set_option linter.unusedVariables false
set_option linter.unusedSimpArgs false
open Go.RowKit
theorem St.litG {α : Type} {e : Elt α} (he : e.Ok) {w0 w : World} {r : List Thing} (S : St w0 w r) (xs : List α) (n : Nat) (hn : xs.length = n) (c : Array Value) (hc : c.toList = xs.flatMap e.enc) (g : Nat) (hg : w.heap.size = g) (hm : n ≤ maxLen) : St w0 (w.alloc (.cells c e.E)) (r ++ [ownT e (.slice (some ⟨g, 0, none⟩) n n) xs]) := by
  subst hg hn
  have hl : (xs.flatMap e.enc).length = xs.length * e.s := by
    clear hm hc
    induction xs with
    | nil => simp
    | cons x xs ih => rw [List.flatMap_cons, List.length_append, ih, he.1 x, List.length_cons, Nat.add_mul]; omega
  refine S.own ⟨hl, .inr ⟨w.heap.size, xs.length, c, rfl, Nat.le_refl _, heap_alloc_new w _, Nat.le_refl _, hm, ?_, ?_⟩⟩ ((Below.refl _ _).alloc (Nat.le_refl _) _)
  · rw [← Array.length_toList, hc, hl]
  · rw [hc, ← hl, List.take_length]
set_option maxRecDepth 10000 in
set_option maxHeartbeats 3200000 in
theorem dNumbers (gq : Nat) (w : World) (hA : AtG eQ w (some ⟨gq, 0, none⟩) [⟨0, 0, 0, 0, 0⟩]) :
    Calls Tryd.prog 45 #[.agg #[.int .i64 2, .int .i64 0, .int .i64 0, .int .i64 0, .int .i64 2, .slice (some ⟨gq, 0, none⟩) 1 1, .int .i64 0, .int .i64 100]] w fun e w' => ∃ a c, e = .returned (.slice a 12 c) ∧ AtG eI w' a ([2, 0, 0, 0, 2, 0, 100, 0, 0, 0, 0, 0] : List Int) ∧ Below w.heap.size w w' := by
  have S1 : St w _ [cellsT w.heap.size 34 [.int .i64 2, .int .i64 0, .int .i64 0, .int .i64 0, .int .i64 2, .slice (some ⟨gq, 0, none⟩) 1 1, .int .i64 0, .int .i64 100]] := (St.start w).newAt 34 #[.int .i64 2, .int .i64 0, .int .i64 0, .int .i64 0, .int .i64 2, .slice (some ⟨gq, 0, none⟩) 1 1, .int .i64 0, .int .i64 100] w.heap.size rfl
  have HA := hid hA
  clear hA
  go_enter Tryd.func45, Tryd.ntmps45
  go_upto_region 2 with fail
  have S2 : St w ((w.alloc (.cells #[.int .i64 2, .int .i64 0, .int .i64 0, .int .i64 0, .int .i64 2, .slice (some ⟨gq, 0, none⟩) 1 1, .int .i64 0, .int .i64 100] 34)).alloc (.cells #[.int .i64 2, .int .i64 0, .int .i64 0, .int .i64 0, .int .i64 2, .int .i64 0, .int .i64 100] 3)) [cellsT w.heap.size 34 [.int .i64 2, .int .i64 0, .int .i64 0, .int .i64 0, .int .i64 2, .slice (some ⟨gq, 0, none⟩) 1 1, .int .i64 0, .int .i64 100], ownT eI (.slice (some ⟨w.heap.size + 1, 0, none⟩) 7 7) ([2, 0, 0, 0, 2, 0, 100] : List Int)] := S1.litG eIok ([2, 0, 0, 0, 2, 0, 100] : List Int) 7 rfl #[.int .i64 2, .int .i64 0, .int .i64 0, .int .i64 0, .int .i64 2, .int .i64 0, .int .i64 100] rfl (w.heap.size + 1) (alloc_size _ _) (by decide)
  generalize w.heap.size + 1 = g3 at *
  generalize w.heap.size = g1 at S2 ⊢
  generalize (w.alloc _).alloc _ = w2 at *
  have c5 := S2.cell 0 rfl 5 rfl
  go_wp2_with fail
  clear c5
  go_loopg [3, 24] 1 (fun m r i wr => (m = 1 ∧ i = .int .i64 0 ∧ r = .slice (some ⟨g3, 0, none⟩) 7 7 ∧ St w wr [cellsT g1 34 [.int .i64 2, .int .i64 0, .int .i64 0, .int .i64 0, .int .i64 2, .slice (some ⟨gq, 0, none⟩) 1 1, .int .i64 0, .int .i64 100], ownT eI (.slice (some ⟨g3, 0, none⟩) 7 7) ([2, 0, 0, 0, 2, 0, 100] : List Int)]) ∨ (m = 0 ∧ i = .int .i64 1 ∧ ∃ a c, r = .slice a 12 c ∧ St w wr [cellsT g1 34 [.int .i64 2, .int .i64 0, .int .i64 0, .int .i64 0, .int .i64 2, .slice (some ⟨gq, 0, none⟩) 1 1, .int .i64 0, .int .i64 100], ownT eI (.slice a 12 c) ([2, 0, 0, 0, 2, 0, 100, 0, 0, 0, 0, 0] : List Int)]))
  case atStart => exact .inl ⟨rfl, rfl, rfl, S2⟩
  case round =>
    clear S2
    rcases hrel with ⟨rfl, rfl, rfl, SA⟩ | ⟨rfl, rfl, a, c, rfl, SB⟩
    case inr =>
      have HB := hid (SB.slG eIok 1 rfl).2.2.2.2
      go_wp2
      go_ret
      exact ⟨a, c, rfl, HB.out, SB.fin⟩
    case inl =>
      have i0 : ∀ wx, (Instr.indexAt 32 (.slice (some ⟨gq, 0, none⟩) 1 1) (.int .i64 0)).run Tryd.prog wx = .ok (.pointer (some ⟨gq, 0, none⟩)) wx := fun wx => idxQ (some ⟨gq, 0, none⟩) 1 1 (fun _ => rfl) 0 0 rfl (by decide) wx
      have hq := (HA.out.all eQok SA.fin) 0 (by decide)
      have q0 : wr.cell? ⟨gq, 0, none⟩ = some (.int .i64 0) := hq.2 0 (by decide)
      have q1 : wr.cell? ⟨gq, 1, none⟩ = some (.int .i64 0) := hq.2 1 (by decide)
      have q2 : wr.cell? ⟨gq, 2, none⟩ = some (.int .i64 0) := hq.2 2 (by decide)
      have q3 : wr.cell? ⟨gq, 3, none⟩ = some (.int .i64 0) := hq.2 3 (by decide)
      have q4 : wr.cell? ⟨gq, 4, none⟩ = some (.int .i64 0) := hq.2 4 (by decide)
      clear hq
      obtain ⟨g5, hg5⟩ : ∃ g5, wr.heap.size = g5 := ⟨_, rfl⟩
      have SC := SA.newAt 37 #[.int .i64 0, .int .i64 0, .int .i64 0, .int .i64 0, .int .i64 0] g5 hg5
      have HC : AtG eI _ (some ⟨g5, 0, none⟩) [0, 0, 0, 0, 0] := fun k hk => ⟨rfl, fun j hj => by
        have hk5 : k < 5 := hk
        have hj0 : j = 0 := by have : j < 1 := hj; omega
        subst hj0
        have := SC.cell 2 rfl k (v := .int .i64 0) (by rcases (show k = 0 ∨ k = 1 ∨ k = 2 ∨ k = 3 ∨ k = 4 by omega) with rfl | rfl | rfl | rfl | rfl <;> rfl)
        rw [show k * eI.s + 0 = k from Nat.mul_one k]
        simp only [adr, Option.getD_some, Addr.add_lit, Nat.zero_add]
        rw [this]
        rcases (show k = 0 ∨ k = 1 ∨ k = 2 ∨ k = 3 ∨ k = 4 by omega) with rfl | rfl | rfl | rfl | rfl <;> rfl⟩
      have HC2 := hid HC
      clear HC SA
      go_upto_region 5 with fail
      clear hg5 q0 q1 q2 q3 q4 i0
      generalize wr.alloc _ = w5 at *
      go_wp2_with (at_builtin; refine wpList_app (by rfl) (.tmp 28) (.tmp 29) eI.T eI.T eI.T rfl rfl _ _ rfl rfl (SC.appG eIok 1 rfl (some ⟨g5, 0, none⟩) [0, 0, 0, 0, 0] 5 5 rfl HC2.out 12 rfl (by decide) (by decide)) ?_; rintro v7 w7 ⟨⟨a7, c7, rfl⟩, S7⟩)
      go_roundg 0
      case measure => decide
      case rel => exact .inr ⟨rfl, rfl, a7, c7, rfl, S7.take 2⟩
set_option maxRecDepth 10000 in
set_option maxHeartbeats 1600000 in
theorem dTold (gq : Nat) (w : World) (hA : AtG eQ w (some ⟨gq, 0, none⟩) [⟨0, 0, 0, 0, 0⟩]) :
    Calls Tryd.prog 32 #[.agg #[.int .i64 2, .int .i64 0, .int .i64 0, .int .i64 0, .int .i64 2, .slice (some ⟨gq, 0, none⟩) 1 1, .int .i64 0, .int .i64 100]] w fun e w' => e = .returned (.bool true) ∧ Below w.heap.size w w' := by
  have S1 : St w _ [cellsT w.heap.size 34 [.int .i64 2, .int .i64 0, .int .i64 0, .int .i64 0, .int .i64 2, .slice (some ⟨gq, 0, none⟩) 1 1, .int .i64 0, .int .i64 100]] := (St.start w).newAt 34 #[.int .i64 2, .int .i64 0, .int .i64 0, .int .i64 0, .int .i64 2, .slice (some ⟨gq, 0, none⟩) 1 1, .int .i64 0, .int .i64 100] w.heap.size rfl
  have HA := hid hA
  clear hA
  go_enter Tryd.func32, Tryd.ntmps32
  go_wp2_with fail
  generalize w.heap.size = g1 at S1 ⊢
  generalize w.alloc _ = w1 at *
  refine (dNumbers gq _ (HA.out.all eQok S1.fin)).mono ?_
  rintro e w2 ⟨a, c, rfl, hN, hb⟩
  have S2 := S1.grow hb
  have HN := hid hN
  clear S1 hb hN
  go_wp2_with fail
  go_loopw [8] (fun i wr => ∃ (k : Nat), k ≤ 12 ∧ i = .int .i64 k ∧ wr = w2) (fun i _ => 12 - (intOf i).toNat)
  case atStart => exact ⟨0, by omega, rfl, rfl⟩
  case round =>
    obtain ⟨k, hk, rfl, rfl⟩ := hrel
    by_cases hlt : k < 12
    case neg =>
      have d1 : decide ((k : Int) < 12) = false := decide_eq_false (by omega)
      have d1n : decide (k < 12) = false := decide_eq_false hlt
      have c5 := S2.cell 0 rfl 5 rfl
      go_wp2
      go_ret
      exact ⟨rfl, S2.fin⟩
    have d1 : decide ((k : Int) < 12) = true := decide_eq_true (by omega)
    have d1n : decide (k < 12) = true := decide_eq_true hlt
    have i0 := fun wx => idxI a 12 c (fun _ => HN.out.ok (by decide)) k (k : Int) rfl hlt wx
    have c0 := HN.out.cellI (k := k) hlt
    have hx := (show ∀ y ∈ ([2, 0, 0, 0, 2, 0, 100, 0, 0, 0, 0, 0] : List Int), 0 ≤ y ∧ y ≤ 1000000 by decide) _ (List.getElem_mem (l := ([2, 0, 0, 0, 2, 0, 100, 0, 0, 0, 0, 0] : List Int)) (n := k) hlt)
    have hwk : IntKind.i64.wrap ((k : Int) + 1) = (k : Int) + 1 := by rw [IntKind.wrap_i64]; omega
    generalize ([2, 0, 0, 0, 2, 0, 100, 0, 0, 0, 0, 0] : List Int)[k]'hlt = x at *
    generalize adr a k = A at *
    have d2 : decide (x < 0) = false := decide_eq_false (by omega)
    have d3 : decide (1000000 < x) = false := decide_eq_false (by omega)
    clear hx
    go_wp2
    go_roundw
    case rel => exact ⟨k + 1, by omega, by go_num, by first | rfl | trivial⟩
    case measure => simp [intOf]; omega
end Go.Proofs.YtjfbmgndekfglaaDoor

namespace Go.Proofs.YtjfbmgndekfglaaDoor
set_option linter.unusedVariables false
set_option linter.unusedSimpArgs false
open Go.RowKit
theorem decD1 (n : Nat) (h : n < 10) : Lib.decDigits n = [UInt8.ofNat (48 + n)] := by rw [Lib.decDigits, dif_pos h]
theorem decD0 : Lib.decDigits 0 = [48] := decD1 0 (by decide)
theorem decD2 : Lib.decDigits 2 = [50] := decD1 2 (by decide)
theorem decD100 : Lib.decDigits 100 = [49, 48, 48] := by
  rw [Lib.decDigits, dif_neg (by decide), Lib.decDigits, dif_neg (by decide), Lib.decDigits, dif_pos (by decide)]
  rfl
theorem outW1 : ([.s [110, 111, 100, 101, 115, 32], .i 2, .s [32, 117, 112, 44, 32], .i 0, .s [32, 99, 111, 114, 100, 111, 110, 101, 100, 44, 32], .i 0, .s [32, 109, 111, 118, 105, 110, 103, 44, 32], .i 0, .s [32, 98, 101, 104, 105, 110, 100, 44, 32], .i 2, .s [32, 102, 114, 101, 101, 10]] : List WD).flatMap WD.out = [110, 111, 100, 101, 115, 32, 50, 32, 117, 112, 44, 32, 48, 32, 99, 111, 114, 100, 111, 110, 101, 100, 44, 32, 48, 32, 109, 111, 118, 105, 110, 103, 44, 32, 48, 32, 98, 101, 104, 105, 110, 100, 44, 32, 50, 32, 102, 114, 101, 101, 10] := by simp only [List.flatMap_cons, List.flatMap_nil, WD.out, decD0, decD2]; rfl
theorem outW2 : ([.s [113, 117, 101, 117, 101, 32], .i 0, .s [58]] : List WD).flatMap WD.out = [113, 117, 101, 117, 101, 32, 48, 58] := by simp only [List.flatMap_cons, List.flatMap_nil, WD.out, decD0, decD2]; rfl
theorem outW3 : ([.s [32], .i 0] : List WD).flatMap WD.out = [32, 48] := by simp only [List.flatMap_cons, List.flatMap_nil, WD.out, decD0, decD2]; rfl
theorem outW4 : ([.s [10]] : List WD).flatMap WD.out = [10] := by simp only [List.flatMap_cons, List.flatMap_nil, WD.out, decD0, decD2]; rfl
theorem outW5 : ([.s [101, 110, 100, 32], .i 0, .s [10, 115, 104, 97, 114, 101, 32], .i 100, .s [10]] : List WD).flatMap WD.out = [101, 110, 100, 32, 48, 10, 115, 104, 97, 114, 101, 32, 49, 48, 48, 10] := by simp only [List.flatMap_cons, List.flatMap_nil, WD.out, decD0, decD100]; rfl
theorem small_itoa (m : Nat) (hm : m < 100) (wx : World) : Calls Tryd.prog 35 #[.int .i64 (m : Int)] wx fun e w' => e = .returned (sv (Lib.decDigits m)) ∧ Below wx.heap.size wx w' := by
  refine (sh_strconv_Itoa_small m hm wx).mono ?_
  rintro e w' ⟨rfl, rfl⟩
  exact ⟨rfl, Below.refl _ _⟩
theorem dPutN {w0 w : World} {tl : List Thing} (b n : Nat) (p v : Value) (l o lo : List UInt8) (W : List WD) (cs : Array Value) (hn : W.length = n) (S : St w0 w (cellsT b 72 [p, v] :: bytesT v l :: tl)) (hp : p = .pointer none ∨ p = .pointer (some ⟨b, 0, none⟩)) (hc : cs.toList = W.map WD.v) (ho : W.flatMap WD.out = o) (hlo : l ++ o = lo) (hlen : lo.length ≤ 1000000) (hn6 : n ≤ 1000)
    (hI : ∀ m : Nat, WD.i m ∈ W → ∀ wx, Below w0.heap.size w0 wx → Calls Tryd.prog 35 #[.int .i64 (m : Int)] wx fun e w' => e = .returned (sv (Lib.decDigits m)) ∧ Below wx.heap.size wx w') :
    Calls Tryd.prog 33 #[.slice (some ⟨w.heap.size, 0, none⟩) n n, .pointer (some ⟨b, 0, none⟩)] (w.alloc (.cells cs 20)) fun e w' => ∃ p' v', e = .returned (.tuple #[]) ∧ (p' = .pointer none ∨ p' = .pointer (some ⟨b, 0, none⟩)) ∧ St w0 w' (cellsT b 72 [p', v'] :: bytesT v' lo :: tl) := by
  have S5 := (newAtG S 20 cs w.heap.size rfl).rot
  have S6 : St w0 (w.alloc (.cells cs 20)) (cellsT b 72 [p, v] :: bytesT v l :: cellsT w.heap.size 20 (W.map WD.v) :: tl) := by
    rw [hc] at S5
    exact (S5.front 2 rfl).front 2 rfl
  refine (dPut b w.heap.size n p v l W hn S6 hp (by rw [ho, ← List.length_append, hlo]; exact hlen) hn6 hI).mono ?_
  rintro e w' ⟨p', v', rfl, hp', S7⟩
  rw [ho, hlo] at S7
  exact ⟨p', v', rfl, hp', (S7.front 2 rfl).tail⟩
theorem byteCells_bv (l : List UInt8) : Lib.byteCells l = l.map bv := rfl
theorem dBuilder {w0 w : World} {tl : List Thing} {b : Nat} {p v : Value} {l : List UInt8} (S : St w0 w (cellsT b 72 [p, v] :: bytesT v l :: tl)) (hp : p = .pointer none ∨ p = .pointer (some ⟨b, 0, none⟩)) :
    Lib.IsBuilderF 72 5 w0.heap.size b (Lib.byteCells l) w ∧ w0.heap.size ≤ w.heap.size := by
  refine ⟨?_, S.size⟩
  obtain ⟨-, F, h2, h3⟩ := S
  have hb := h2 0 _ rfl
  have hv := h2 1 _ rfl
  have hne : v.ownBlock ≠ some b := fun h => h3 1 0 b (by simp) (by simp) (by decide) ((hv.2 b).2 h) ((hb.2.2 b).2 rfl)
  have hown : w.ownsRow w0.heap.size 5 1 v (Lib.byteCells l).length (Lib.byteCells l) := by
    rw [byteCells_bv, List.length_map]
    exact hv.1
  rcases hp with rfl | rfl
  · exact .inl (Lib.BuilderAtF.of ⟨hb.1, v, hb.2.1, hown, hne⟩)
  · exact .inr (Lib.BuilderAtF.of ⟨hb.1, v, hb.2.1, hown, hne⟩)
def spc : Nat → List UInt8
  | 0 => []
  | k + 1 => spc k ++ [32, 48]
theorem spc_len : ∀ k, (spc k).length = 2 * k
  | 0 => rfl
  | k + 1 => by rw [spc, List.length_append, spc_len k]; simp; omega
set_option maxRecDepth 10000 in
set_option maxHeartbeats 3200000 in
theorem dText (gq : Nat) (w : World) (hA : AtG eQ w (some ⟨gq, 0, none⟩) [⟨0, 0, 0, 0, 0⟩])
    (hI : ∀ wx, Below w.heap.size w wx → Calls Tryd.prog 35 #[.int .i64 ((100 : Nat) : Int)] wx fun e w' => e = .returned (sv (Lib.decDigits 100)) ∧ Below wx.heap.size wx w') :
    Calls Tryd.prog 16 #[.agg #[.int .i64 2, .int .i64 0, .int .i64 0, .int .i64 0, .int .i64 2, .slice (some ⟨gq, 0, none⟩) 1 1, .int .i64 0, .int .i64 100]] w fun e w' => e = .returned (sv (tx 0)) ∧ Below w.heap.size w w' := by
  have hmf : ∀ (fn : Fn) (first cap : Array Value) (w : World), (Instr.makeFunc fn first cap).run Tryd.prog w = .ok (.func fn first cap) w := fun _ _ _ _ => rfl
  have S1 : St w _ [cellsT w.heap.size 34 [.int .i64 2, .int .i64 0, .int .i64 0, .int .i64 0, .int .i64 2, .slice (some ⟨gq, 0, none⟩) 1 1, .int .i64 0, .int .i64 100]] := (St.start w).newAt 34 #[.int .i64 2, .int .i64 0, .int .i64 0, .int .i64 0, .int .i64 2, .slice (some ⟨gq, 0, none⟩) 1 1, .int .i64 0, .int .i64 100] w.heap.size rfl
  have HA := hid hA
  have HI := hid hI
  clear hA hI
  go_enter Tryd.func16, Tryd.ntmps16
  go_wp2_with fail
  generalize w.heap.size = g1 at S1 ⊢
  generalize w.alloc _ = w1 at *
  refine (dTold gq _ (HA.out.all eQok S1.fin)).mono ?_
  rintro e w2 ⟨rfl, hb⟩
  have S2 := S1.grow hb
  clear S1 hb
  have c0 := S2.cell 0 rfl 0 rfl
  have c1 := S2.cell 0 rfl 1 rfl
  have c2 := S2.cell 0 rfl 2 rfl
  have c3 := S2.cell 0 rfl 3 rfl
  have c4 := S2.cell 0 rfl 4 rfl
  have S3 : St w (w2.alloc (.cells #[.pointer none, .slice none 0 0] 72)) [cellsT g1 34 [.int .i64 2, .int .i64 0, .int .i64 0, .int .i64 0, .int .i64 2, .slice (some ⟨gq, 0, none⟩) 1 1, .int .i64 0, .int .i64 100], cellsT w2.heap.size 72 [.pointer none, .slice none 0 0]] := S2.newAt 72 #[.pointer none, .slice none 0 0] w2.heap.size rfl
  clear c0 c1 c2 c3 c4
  go_upto_region 4 with fail
  generalize w2.heap.size = gb at S3 ⊢
  generalize w2.alloc _ = w3 at *
  clear S2
  have S4 : St w w3 [cellsT gb 72 [.pointer none, .slice none 0 0], bytesT (.slice none 0 0) [], cellsT g1 34 [.int .i64 2, .int .i64 0, .int .i64 0, .int .i64 0, .int .i64 2, .slice (some ⟨gq, 0, none⟩) 1 1, .int .i64 0, .int .i64 100]] := (S3.nil.front 2 rfl).front 2 rfl
  clear S3
  have c0 := S4.cell 2 rfl 0 rfl
  have c1 := S4.cell 2 rfl 1 rfl
  have c2 := S4.cell 2 rfl 2 rfl
  have c3 := S4.cell 2 rfl 3 rfl
  have c4 := S4.cell 2 rfl 4 rfl
  go_wp2_with fail
  clear c0 c1 c2 c3 c4
  refine (dPutN gb 11 _ _ [] _ [110, 111, 100, 101, 115, 32, 50, 32, 117, 112, 44, 32, 48, 32, 99, 111, 114, 100, 111, 110, 101, 100, 44, 32, 48, 32, 109, 111, 118, 105, 110, 103, 44, 32, 48, 32, 98, 101, 104, 105, 110, 100, 44, 32, 50, 32, 102, 114, 101, 101, 10] [.s [110, 111, 100, 101, 115, 32], .i 2, .s [32, 117, 112, 44, 32], .i 0, .s [32, 99, 111, 114, 100, 111, 110, 101, 100, 44, 32], .i 0, .s [32, 109, 111, 118, 105, 110, 103, 44, 32], .i 0, .s [32, 98, 101, 104, 105, 110, 100, 44, 32], .i 2, .s [32, 102, 114, 101, 101, 10]] _ rfl S4 (.inl rfl) rfl outW1 rfl (by decide) (by decide) (fun m hm wx hb => small_itoa m (by simp at hm; omega) wx)).mono ?_
  rintro e w4 ⟨p4, v4, rfl, hp4, S5⟩
  clear S4
  have HP4 := hid hp4
  clear hp4
  have c5 := S5.cell 2 rfl 5 rfl
  go_wp2_with fail
  clear c5
  go_loopg [40] 1 (fun m i wr => (m = 1 ∧ i = .int .i64 0 ∧ ∃ p v, (p = .pointer none ∨ p = .pointer (some ⟨gb, 0, none⟩)) ∧ St w wr [cellsT gb 72 [p, v], bytesT v [110, 111, 100, 101, 115, 32, 50, 32, 117, 112, 44, 32, 48, 32, 99, 111, 114, 100, 111, 110, 101, 100, 44, 32, 48, 32, 109, 111, 118, 105, 110, 103, 44, 32, 48, 32, 98, 101, 104, 105, 110, 100, 44, 32, 50, 32, 102, 114, 101, 101, 10], cellsT g1 34 [.int .i64 2, .int .i64 0, .int .i64 0, .int .i64 0, .int .i64 2, .slice (some ⟨gq, 0, none⟩) 1 1, .int .i64 0, .int .i64 100]]) ∨ (m = 0 ∧ i = .int .i64 1 ∧ ∃ p v, (p = .pointer none ∨ p = .pointer (some ⟨gb, 0, none⟩)) ∧ St w wr [cellsT gb 72 [p, v], bytesT v [110, 111, 100, 101, 115, 32, 50, 32, 117, 112, 44, 32, 48, 32, 99, 111, 114, 100, 111, 110, 101, 100, 44, 32, 48, 32, 109, 111, 118, 105, 110, 103, 44, 32, 48, 32, 98, 101, 104, 105, 110, 100, 44, 32, 50, 32, 102, 114, 101, 101, 10, 113, 117, 101, 117, 101, 32, 48, 58, 32, 48, 32, 48, 32, 48, 32, 48, 32, 48, 10], cellsT g1 34 [.int .i64 2, .int .i64 0, .int .i64 0, .int .i64 0, .int .i64 2, .slice (some ⟨gq, 0, none⟩) 1 1, .int .i64 0, .int .i64 100]]))
  case atStart => exact .inl ⟨rfl, rfl, _, _, HP4.out, S5⟩
  case round =>
    clear S5 HP4
    rcases hrel with ⟨rfl, rfl, p, v, hp, SA⟩ | ⟨rfl, rfl, p, v, hp, SA⟩
    · have i0 : ∀ wx, (Instr.indexAt 32 (.slice (some ⟨gq, 0, none⟩) 1 1) (.int .i64 0)).run Tryd.prog wx = .ok (.pointer (some ⟨gq, 0, none⟩)) wx := fun wx => idxQ (some ⟨gq, 0, none⟩) 1 1 (fun _ => rfl) 0 0 rfl (by decide) wx
      have hq := (HA.out.all eQok SA.fin) 0 (by decide)
      have q0 : wr.cell? ⟨gq, 0, none⟩ = some (.int .i64 0) := hq.2 0 (by decide)
      have q1 : wr.cell? ⟨gq, 1, none⟩ = some (.int .i64 0) := hq.2 1 (by decide)
      have q2 : wr.cell? ⟨gq, 2, none⟩ = some (.int .i64 0) := hq.2 2 (by decide)
      have q3 : wr.cell? ⟨gq, 3, none⟩ = some (.int .i64 0) := hq.2 3 (by decide)
      have q4 : wr.cell? ⟨gq, 4, none⟩ = some (.int .i64 0) := hq.2 4 (by decide)
      clear hq
      have HP := hid hp
      clear hp
      obtain ⟨g5, hg5⟩ : ∃ g5, wr.heap.size = g5 := ⟨_, rfl⟩
      have SB : St w (wr.alloc (.cells #[.int .i64 0, .int .i64 0, .int .i64 0, .int .i64 0, .int .i64 0] 37)) [cellsT gb 72 [p, v], bytesT v [110, 111, 100, 101, 115, 32, 50, 32, 117, 112, 44, 32, 48, 32, 99, 111, 114, 100, 111, 110, 101, 100, 44, 32, 48, 32, 109, 111, 118, 105, 110, 103, 44, 32, 48, 32, 98, 101, 104, 105, 110, 100, 44, 32, 50, 32, 102, 114, 101, 101, 10], cellsT g1 34 [.int .i64 2, .int .i64 0, .int .i64 0, .int .i64 0, .int .i64 2, .slice (some ⟨gq, 0, none⟩) 1 1, .int .i64 0, .int .i64 100], cellsT g5 37 #[.int .i64 0, .int .i64 0, .int .i64 0, .int .i64 0, .int .i64 0].toList] := newAtG SA 37 #[.int .i64 0, .int .i64 0, .int .i64 0, .int .i64 0, .int .i64 0] g5 hg5
      clear SA
      go_upto_region 9 with fail
      clear hg5 q0 q1 q2 q3 q4 i0
      generalize wr.alloc _ = w5 at *
      go_wp2_with fail
      refine (dPutN gb 3 _ _ _ _ [110, 111, 100, 101, 115, 32, 50, 32, 117, 112, 44, 32, 48, 32, 99, 111, 114, 100, 111, 110, 101, 100, 44, 32, 48, 32, 109, 111, 118, 105, 110, 103, 44, 32, 48, 32, 98, 101, 104, 105, 110, 100, 44, 32, 50, 32, 102, 114, 101, 101, 10, 113, 117, 101, 117, 101, 32, 48, 58] [.s [113, 117, 101, 117, 101, 32], .i 0, .s [58]] _ rfl SB HP.out rfl outW2 rfl (by decide) (by decide) (fun m hm wx hb => small_itoa m (by simp at hm; omega) wx)).mono ?_
      rintro e w6 ⟨p6, v6, rfl, hp6, S6⟩
      clear SB HP
      have HP6 := hid hp6
      clear hp6
      have S7 : St w w6 [cellsT gb 72 [p6, v6], bytesT v6 ([110, 111, 100, 101, 115, 32, 50, 32, 117, 112, 44, 32, 48, 32, 99, 111, 114, 100, 111, 110, 101, 100, 44, 32, 48, 32, 109, 111, 118, 105, 110, 103, 44, 32, 48, 32, 98, 101, 104, 105, 110, 100, 44, 32, 50, 32, 102, 114, 101, 101, 10, 113, 117, 101, 117, 101, 32, 48, 58] ++ spc 0), cellsT g1 34 [.int .i64 2, .int .i64 0, .int .i64 0, .int .i64 0, .int .i64 2, .slice (some ⟨gq, 0, none⟩) 1 1, .int .i64 0, .int .i64 100], cellsT g5 37 #[.int .i64 0, .int .i64 0, .int .i64 0, .int .i64 0, .int .i64 0].toList] := S6
      clear S6
      have q0 := S7.cell 3 rfl 0 rfl
      have q1 := S7.cell 3 rfl 1 rfl
      have q2 := S7.cell 3 rfl 2 rfl
      have q3 := S7.cell 3 rfl 3 rfl
      have q4 := S7.cell 3 rfl 4 rfl
      go_wp2_with fail
      clear q0 q1 q2 q3 q4
      go_loopw [53] (fun i wr => ∃ (k : Nat) (p v : Value), k ≤ 5 ∧ i = .int .i64 k ∧ (p = .pointer none ∨ p = .pointer (some ⟨gb, 0, none⟩)) ∧ St w wr [cellsT gb 72 [p, v], bytesT v ([110, 111, 100, 101, 115, 32, 50, 32, 117, 112, 44, 32, 48, 32, 99, 111, 114, 100, 111, 110, 101, 100, 44, 32, 48, 32, 109, 111, 118, 105, 110, 103, 44, 32, 48, 32, 98, 101, 104, 105, 110, 100, 44, 32, 50, 32, 102, 114, 101, 101, 10, 113, 117, 101, 117, 101, 32, 48, 58] ++ spc k), cellsT g1 34 [.int .i64 2, .int .i64 0, .int .i64 0, .int .i64 0, .int .i64 2, .slice (some ⟨gq, 0, none⟩) 1 1, .int .i64 0, .int .i64 100], cellsT g5 37 #[.int .i64 0, .int .i64 0, .int .i64 0, .int .i64 0, .int .i64 0].toList]) (fun i _ => 5 - (intOf i).toNat)
      case atStart => exact ⟨0, _, _, by decide, rfl, HP6.out, S7⟩
      case round =>
        obtain ⟨k, p7, v7, hk, rfl, hp7, Sk⟩ := hrel
        have HP7 := hid hp7
        clear hp7 S7 HP6
        by_cases hlt : k < 5
        case neg =>
          have d1 : decide ((k : Int) < 5) = false := decide_eq_false (by omega)
          have d1n : decide (k < 5) = false := decide_eq_false hlt
          obtain rfl : k = 5 := by omega
          have Sk2 : St w wr [cellsT gb 72 [p7, v7], bytesT v7 [110, 111, 100, 101, 115, 32, 50, 32, 117, 112, 44, 32, 48, 32, 99, 111, 114, 100, 111, 110, 101, 100, 44, 32, 48, 32, 109, 111, 118, 105, 110, 103, 44, 32, 48, 32, 98, 101, 104, 105, 110, 100, 44, 32, 50, 32, 102, 114, 101, 101, 10, 113, 117, 101, 117, 101, 32, 48, 58, 32, 48, 32, 48, 32, 48, 32, 48, 32, 48], cellsT g1 34 [.int .i64 2, .int .i64 0, .int .i64 0, .int .i64 0, .int .i64 2, .slice (some ⟨gq, 0, none⟩) 1 1, .int .i64 0, .int .i64 100], cellsT g5 37 #[.int .i64 0, .int .i64 0, .int .i64 0, .int .i64 0, .int .i64 0].toList] := Sk
          clear Sk
          go_wp2_with fail
          refine (dPutN gb 1 _ _ _ _ [110, 111, 100, 101, 115, 32, 50, 32, 117, 112, 44, 32, 48, 32, 99, 111, 114, 100, 111, 110, 101, 100, 44, 32, 48, 32, 109, 111, 118, 105, 110, 103, 44, 32, 48, 32, 98, 101, 104, 105, 110, 100, 44, 32, 50, 32, 102, 114, 101, 101, 10, 113, 117, 101, 117, 101, 32, 48, 58, 32, 48, 32, 48, 32, 48, 32, 48, 32, 48, 10] [.s [10]] _ rfl Sk2 HP7.out rfl outW4 rfl (by decide) (by decide) (fun m hm wx hb => by simp at hm)).mono ?_
          rintro e w8 ⟨p8, v8, rfl, hp8, S8⟩
          have HP8 := hid hp8
          clear hp8 Sk2
          go_wp2
          go_roundg 0
          case measure => decide
          case rel => exact .inr ⟨rfl, rfl, _, _, HP8.out, S8.take 3⟩
        have d1 : decide ((k : Int) < 5) = true := decide_eq_true (by omega)
        have d1n : decide (k < 5) = true := decide_eq_true hlt
        have i0 := ix5 k hlt
        have hwk : IntKind.i64.wrap ((k : Int) + 1) = (k : Int) + 1 := by rw [IntKind.wrap_i64]; omega
        have HL : Hid ((([110, 111, 100, 101, 115, 32, 50, 32, 117, 112, 44, 32, 48, 32, 99, 111, 114, 100, 111, 110, 101, 100, 44, 32, 48, 32, 109, 111, 118, 105, 110, 103, 44, 32, 48, 32, 98, 101, 104, 105, 110, 100, 44, 32, 50, 32, 102, 114, 101, 101, 10, 113, 117, 101, 117, 101, 32, 48, 58] : List UInt8) ++ spc (k + 1)).length ≤ 1000000) := by
          rw [Hid, List.length_append, spc_len]
          have : (([110, 111, 100, 101, 115, 32, 50, 32, 117, 112, 44, 32, 48, 32, 99, 111, 114, 100, 111, 110, 101, 100, 44, 32, 48, 32, 109, 111, 118, 105, 110, 103, 44, 32, 48, 32, 98, 101, 104, 105, 110, 100, 44, 32, 50, 32, 102, 114, 101, 101, 10, 113, 117, 101, 117, 101, 32, 48, 58] : List UInt8)).length ≤ 100 := by decide
          omega
        have HE : Hid ((([110, 111, 100, 101, 115, 32, 50, 32, 117, 112, 44, 32, 48, 32, 99, 111, 114, 100, 111, 110, 101, 100, 44, 32, 48, 32, 109, 111, 118, 105, 110, 103, 44, 32, 48, 32, 98, 101, 104, 105, 110, 100, 44, 32, 50, 32, 102, 114, 101, 101, 10, 113, 117, 101, 117, 101, 32, 48, 58] : List UInt8) ++ spc k) ++ [32, 48] = [110, 111, 100, 101, 115, 32, 50, 32, 117, 112, 44, 32, 48, 32, 99, 111, 114, 100, 111, 110, 101, 100, 44, 32, 48, 32, 109, 111, 118, 105, 110, 103, 44, 32, 48, 32, 98, 101, 104, 105, 110, 100, 44, 32, 50, 32, 102, 114, 101, 101, 10, 113, 117, 101, 117, 101, 32, 48, 58] ++ spc (k + 1)) := by rw [Hid, spc, List.append_assoc]
        go_wp2_with fail
        refine (dPutN gb 2 _ _ _ _ _ [.s [32], .i 0] _ rfl Sk HP7.out rfl outW3 HE.out HL.out (by decide) (fun m hm wx hb => small_itoa m (by simp at hm; omega) wx)).mono ?_
        rintro e w8 ⟨p8, v8, rfl, hp8, S8⟩
        have HP8 := hid hp8
        clear hp8 Sk
        go_wp2
        go_roundw
        case rel => exact ⟨k + 1, _, _, by omega, by go_num, HP8.out, S8⟩
        case measure => simp [intOf]; omega
    · have HP := hid hp
      clear hp
      have c6 := SA.cell 2 rfl 6 rfl
      have c7 := SA.cell 2 rfl 7 rfl
      go_wp2_with fail
      clear c6 c7
      refine (dPutN gb 5 _ _ _ _ [110, 111, 100, 101, 115, 32, 50, 32, 117, 112, 44, 32, 48, 32, 99, 111, 114, 100, 111, 110, 101, 100, 44, 32, 48, 32, 109, 111, 118, 105, 110, 103, 44, 32, 48, 32, 98, 101, 104, 105, 110, 100, 44, 32, 50, 32, 102, 114, 101, 101, 10, 113, 117, 101, 117, 101, 32, 48, 58, 32, 48, 32, 48, 32, 48, 32, 48, 32, 48, 10, 101, 110, 100, 32, 48, 10, 115, 104, 97, 114, 101, 32, 49, 48, 48, 10] [.s [101, 110, 100, 32], .i 0, .s [10, 115, 104, 97, 114, 101, 32], .i 100, .s [10]] _ rfl SA HP.out rfl outW5 rfl (by decide) (by decide) (fun m hm wx hb => by
        rcases (show m = 0 ∨ m = 100 by simpa using hm) with rfl | rfl
        · exact small_itoa 0 (by decide) wx
        · exact HI.out wx hb)).mono ?_
      rintro e w8 ⟨p8, v8, rfl, hp8, S8⟩
      have HP8 := hid hp8
      clear hp8 SA
      obtain ⟨H1, H2⟩ := dBuilder S8 HP8.out
      have HB := hid H1
      have HZ := hid H2
      clear H1 H2
      go_wp2_with fail
      refine (sh_Builder_String_any_k w.heap.size gb _ _ HB.out HZ.out).mono ?_
      rintro e w9 ⟨rfl, -, hb9, -⟩
      go_wp2
      go_ret
      exact ⟨rfl, S8.fin.trans hb9⟩
end Go.Proofs.YtjfbmgndekfglaaDoor
