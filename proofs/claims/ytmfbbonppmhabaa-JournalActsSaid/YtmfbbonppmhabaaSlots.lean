/- Slots: the walks of layer 6 that only look. -/
import Derived.Test.YtmfbbonppmhabaaLogs
namespace Go.Proofs.Ytmfbbonppmhabaa
set_option linter.unusedVariables false
set_option linter.unusedSimpArgs false
open Go.RowKit

/-- A part of bytes of ours, to be read alone. -/
theorem St.toRo {w0 w : World} {tl : List Thing} {a : Option Addr} {n c : Nat} {l : List UInt8} (S : St w0 w (bytesT (.slice a n c) l :: tl)) (k : Nat) (hk : k ≤ n) : St w0 w (roT (cutH a k c) (l.drop k) :: tl) := by
  have hl := S.slA 0 rfl
  refine S.turn 0 rfl (y := roT (cutH a k c) (l.drop k)) (fun F h => ?_)
  obtain ⟨h1, h2⟩ := h
  refine ⟨?_, ?_, fun b hb => own_lt ((ownB _ _ _ _).2 h1) b ((h2 b).1 hb)⟩
  · have := hl.2.2.2.2.cut k (n - k) c (by omega)
    rwa [List.take_of_length_le (by rw [List.length_drop]; omega)] at this
  · intro x hx
    obtain ⟨a', c', e', _, _, _, _, ho⟩ := OwnG.at eBok ((ownB _ _ _ _).2 h1)
    cases e'
    unfold cutH at hx
    split at hx
    · exact (h2 _).2 (ho x hx)
    · obtain ⟨y, hy, rfl⟩ := Option.map_eq_some_iff.1 hx
      exact (h2 _).2 ((ho y hy).trans (by unfold Addr.add; split <;> rfl))
theorem St.roNil {w0 w : World} {tl : List Thing} (S : St w0 w tl) : St w0 w (roT none [] :: tl) :=
  (S.push (Below.refl _ _) (y := roT none []) (F := fun _ => False) ⟨At.nil _ _, fun x hx => (by cases hx), fun b hb => hb.elim⟩ (fun b hb => hb.elim)).rot
theorem fGet_else {l : List UInt8} {k : Int} (h : (fGet l k).2.2 ≠ 1) : (fGet l k).1 = [] := by
  unfold fGet at h ⊢
  split
  · rfl
  split
  · rfl
  · rename_i h1 h2
    rw [if_neg h1, if_neg h2] at h
    unfold fNum at h ⊢
    split
    · rfl
    · rename_i m x hx
      rw [hx] at h
      simp only [] at h ⊢
      unfold fBody at h ⊢
      split
      · rfl
      · rename_i h3
        rw [if_neg h3] at h
        split
        · rename_i h4; rw [if_pos h4] at h; exact absurd rfl h
        · rfl
theorem fGet_le (l : List UInt8) (k : Nat) : (fGet l k).1.length ≤ 4000 := by
  by_cases h : (fGet l k).2.2 = 1
  · exact (fGet_frame h).2.1
  · rw [fGet_else h]; simp
/-- The picture of a slot's bytes, and its age. -/
def pic (l : List UInt8) : Option (List UInt8 × Nat) := if (fGet l 0).2.2 = 1 then (getNum (fGet l 0).1 0).map fun p => ((fGet l 0).1.drop p.2, p.1) else none
def picL (o : Option (List UInt8 × Nat)) : List UInt8 := match o with | none => [] | some p => p.1
def picA (o : Option (List UInt8 × Nat)) : Nat := match o with | none => 0 | some p => p.2
/-- Which slot counts. -/
def newestI (x y : Option (List UInt8 × Nat)) : Int := match x, y with | none, none => -1 | some _, none => 0 | none, some _ => 1 | some p, some q => if p.2 < q.2 then 1 else 0
def loadO (x y : Option (List UInt8 × Nat)) : Option (List UInt8 × Nat) := match x, y with | none, none => none | some p, none => some p | none, some q => some q | some p, some q => if p.2 < q.2 then some q else some p
def slotC (pd : Value) (fr sz : Nat) : List Value := [pd, .int .i64 (fr : Int), .int .i64 (sz : Int)]
/-- One more slot is looked at. -/
def newS (b : Int × Int) (k : Int) : Option (List UInt8 × Nat) → Int × Int
  | none => b
  | some p => if b.2 < (p.2 : Int) then (k, (p.2 : Int)) else b
theorem newS_is (x y : Option (List UInt8 × Nat)) : (newS (newS (-1, -1) 0 x) 1 y).1 = newestI x y := by
  rcases x with _ | p <;> rcases y with _ | q
  · rfl
  · show (if (-1 : Int) < (q.2 : Int) then ((1 : Int), (q.2 : Int)) else (-1, -1)).1 = 1
    rw [if_pos (by omega)]
  · show (if (-1 : Int) < (p.2 : Int) then ((0 : Int), (p.2 : Int)) else (-1, -1)).1 = 0
    rw [if_pos (by omega)]
  · show (newS (if (-1 : Int) < (p.2 : Int) then ((0 : Int), (p.2 : Int)) else (-1, -1)) 1 (some q)).1 = if p.2 < q.2 then 1 else 0
    rw [if_pos (by omega)]
    show (if (p.2 : Int) < (q.2 : Int) then ((1 : Int), (q.2 : Int)) else (0, (p.2 : Int))).1 = _
    by_cases h : p.2 < q.2
    · rw [if_pos (by omega), if_pos h]
    · rw [if_neg (by omega), if_neg h]
/-- What a look at pictures tells. -/
def PicPost (w0 : World) (r : List Thing) (o : Option (List UInt8 × Nat)) (e : Ending) (w' : World) : Prop :=
  ∃ a c, e = .returned (.tuple #[.slice a (picL o).length c, .int .i64 (picA o : Int), .bool o.isSome]) ∧ (picL o).length ≤ c ∧ c ≤ maxLen ∧ (a = none → c = 0) ∧ St w0 w' (roT a (picL o) :: r)

section
variable {w0 w : World} {tl : List Thing} {pd : Value} {d : DSt} {g fr sz : Nat}
set_option maxRecDepth 10000 in
set_option maxHeartbeats 1600000 in
theorem place_any (S : St w0 w (cellsT g 97 (slotC pd fr sz) :: tl)) (k : Nat) (hk : k ≤ 1) (hf : fr + 2 * sz ≤ 65536) :
    Calls Try.prog 76 #[.pointer (some ⟨g, 0, none⟩), .int .i64 k] w fun e w' => e = .returned (.int .i64 ((fr + k * sz : Nat) : Int)) ∧ St w0 w' (cellsT g 97 (slotC pd fr sz) :: tl) := by
  have hks : k * sz ≤ sz := Nat.le_trans (Nat.mul_le_mul_right sz hk) (by omega)
  obtain ⟨p, hp⟩ : ∃ p, k * sz = p := ⟨_, rfl⟩
  have t1 : IntKind.i64.wrap ((k : Int) * (sz : Int)) = (p : Int) := by rw [← Int.natCast_mul, hp, IntKind.wrap_i64]; omega
  rw [hp] at hks ⊢
  have t2 : IntKind.i64.wrap ((fr : Int) + (p : Int)) = ((fr + p : Nat) : Int) := by rw [IntKind.wrap_i64]; omega
  clear hp
  go_enter Try.func76, Try.ntmps76
  go_wp2_with fail
  refine wp_region_held_drew (S := (fun w' => w'.cell? ⟨g, 1, none⟩ = some (.int .i64 (fr : Int)) ∧ w'.cell? ⟨g, 2, none⟩ = some (.int .i64 (sz : Int)))) (by kernel_rfl) (by exact ⟨S.drew.cell 0 rfl 1 rfl, S.drew.cell 0 rfl 2 rfl⟩) (fun hHeld => ?_)
  change wpAnyH _ _ _ _ _ 12 (Array.replicate 12 false) _ _
  refine wpAnyH_take (i := 0) (v := ?v1) (ops_at rfl) (by kernel_rfl) (by kernel_rfl) (by kernel_rfl) (fun _ _ _ h => h) (Or.inl ⟨by rfl, ?hy1⟩) (by assumption) ?rest1
  case hy1 => intro w' hSw; (try dsimp only at hSw); go_simp; try with_reducible rfl
  try simp only [Act.put, List.setIfInBounds_toArray, List.set_cons_zero, List.set_cons_succ]
  refine wpAnyH_take (i := 1) (v := ?v2) (ops_at rfl) (by kernel_rfl) (by kernel_rfl) (by kernel_rfl) (fun _ _ _ h => h) (Or.inl ⟨by rfl, ?hy2⟩) (by assumption) ?rest2
  case hy2 => intro w' hSw; (try dsimp only at hSw); go_simp; try with_reducible rfl
  try simp only [Act.put, List.setIfInBounds_toArray, List.set_cons_zero, List.set_cons_succ]
  refine wpAnyH_take (i := 2) (v := ?v3) (ops_at rfl) (by kernel_rfl) (by kernel_rfl) (by kernel_rfl) (fun _ _ _ h => h) (Or.inl ⟨by rfl, ?hy3⟩) (by assumption) ?rest3
  case hy3 => intro w' hSw; (try dsimp only at hSw); go_simp; try with_reducible rfl
  try simp only [Act.put, List.setIfInBounds_toArray, List.set_cons_zero, List.set_cons_succ]
  refine wpAnyH_take (i := 3) (v := ?v4) (ops_at rfl) (by kernel_rfl) (by kernel_rfl) (by kernel_rfl) (fun _ _ _ h => h) (Or.inl ⟨by rfl, ?hy4⟩) (by assumption) ?rest4
  case hy4 => intro w' hSw; (try dsimp only at hSw); go_simp; try with_reducible rfl
  try simp only [Act.put, List.setIfInBounds_toArray, List.set_cons_zero, List.set_cons_succ]
  refine wpAnyH_take (i := 4) (v := ?v5) (ops_at rfl) (by kernel_rfl) (by kernel_rfl) (by kernel_rfl) (fun _ _ _ h => h) (Or.inl ⟨by rfl, ?hy5⟩) (by assumption) ?rest5
  case hy5 => intro w' hSw; (try dsimp only at hSw); go_simp; try with_reducible rfl
  try simp only [Act.put, List.setIfInBounds_toArray, List.set_cons_zero, List.set_cons_succ]
  refine wpAnyH_take (i := 5) (v := ?v6) (ops_at rfl) (by kernel_rfl) (by kernel_rfl) (by kernel_rfl) (fun _ _ _ h => h) (Or.inl ⟨by rfl, ?hy6⟩) (by assumption) ?rest6
  case hy6 => intro w' hSw; (try dsimp only at hSw); go_simp; try with_reducible rfl
  try simp only [Act.put, List.setIfInBounds_toArray, List.set_cons_zero, List.set_cons_succ]
  refine wpAnyH_take (i := 6) (v := ?v7) (ops_at rfl) (by kernel_rfl) (by kernel_rfl) (by kernel_rfl) (fun _ _ _ h => h) (Or.inl ⟨by rfl, ?hy7⟩) (by assumption) ?rest7
  case hy7 => intro w' hSw; (try dsimp only at hSw); go_simp; try with_reducible rfl
  try simp only [Act.put, List.setIfInBounds_toArray, List.set_cons_zero, List.set_cons_succ]
  refine wpAnyH_take (i := 7) (v := ?v8) (ops_at rfl) (by kernel_rfl) (by kernel_rfl) (by kernel_rfl) (fun _ _ _ h => h) (Or.inl ⟨by rfl, ?hy8⟩) (by assumption) ?rest8
  case hy8 => intro w' hSw; (try dsimp only at hSw); go_simp; try with_reducible rfl
  try simp only [Act.put, List.setIfInBounds_toArray, List.set_cons_zero, List.set_cons_succ]
  refine wpAnyH_take (i := 8) (v := ?v9) (ops_at rfl) (by kernel_rfl) (by kernel_rfl) (by kernel_rfl) (fun _ _ _ h => h) (Or.inl ⟨by rfl, ?hy9⟩) (by assumption) ?rest9
  case hy9 => intro w' hSw; (try dsimp only at hSw); go_simp; try with_reducible rfl
  try simp only [Act.put, List.setIfInBounds_toArray, List.set_cons_zero, List.set_cons_succ]
  refine wpAnyH_take (i := 9) (v := ?v10) (ops_at rfl) (by kernel_rfl) (by kernel_rfl) (by kernel_rfl) (fun _ _ _ h => h) (Or.inl ⟨by rfl, ?hy10⟩) (by assumption) ?rest10
  case hy10 => intro w' hSw; (try dsimp only at hSw); go_simp; try with_reducible rfl
  try simp only [Act.put, List.setIfInBounds_toArray, List.set_cons_zero, List.set_cons_succ]
  refine wpAnyH_take (i := 10) (v := ?v11) (ops_at rfl) (by kernel_rfl) (by kernel_rfl) (by kernel_rfl) (fun _ _ _ h => h) (Or.inl ⟨by rfl, ?hy11⟩) (by assumption) ?rest11
  case hy11 => intro w' hSw; (try dsimp only at hSw); go_simp; try with_reducible rfl
  try simp only [Act.put, List.setIfInBounds_toArray, List.set_cons_zero, List.set_cons_succ]
  refine wpAnyH_take (i := 11) (v := ?v12) (ops_at rfl) (by kernel_rfl) (by kernel_rfl) (by kernel_rfl) (fun _ _ _ h => h) (Or.inl ⟨by rfl, ?hy12⟩) (by assumption) ?rest12
  case hy12 => intro w' hSw; (try dsimp only at hSw); go_simp; try with_reducible rfl
  try simp only [Act.put, List.setIfInBounds_toArray, List.set_cons_zero, List.set_cons_succ]
  refine wpAnyH_done (by kernel_rfl) ?_ _
  go_wp2
  go_ret
  exact ⟨by simp, S.drew⟩
set_option maxRecDepth 10000 in
set_option maxHeartbeats 1600000 in
theorem picture_any (S : St w0 w (cellsT g 97 (slotC pd fr sz) :: diskT pd d :: tl)) (k : Nat) (hk : k ≤ 1) (hf : fr + 2 * sz ≤ d.lasts.length) (hw : d.waits.length ≤ 1000) :
    Calls Try.prog 58 #[.pointer (some ⟨g, 0, none⟩), .int .i64 k] w fun e w' => PicPost w0 (cellsT g 97 (slotC pd fr sz) :: diskT pd d :: tl) (pic (piece d.bytes (fr + k * sz) sz)) e w' := by
  have hd := S.disk 1 rfl
  obtain ⟨N, hN⟩ : ∃ N, d.lasts.length = N := ⟨_, rfl⟩
  rw [hN] at hd hf
  have hN6 := hd.2.2.1
  have HB := hid hd.2.2.2
  have hks : k * sz ≤ sz := Nat.le_trans (Nat.mul_le_mul_right sz hk) (by omega)
  have hat : fr + k * sz + sz ≤ N := by omega
  have hpl := piece_len (l := d.bytes) (fr := fr + k * sz) (sz := sz) (by rw [hd.2.2.2]; exact hat)
  obtain ⟨L, hL⟩ : ∃ L, piece d.bytes (fr + k * sz) sz = L := ⟨_, rfl⟩
  rw [hL] at hpl ⊢
  have HL := hid hL
  have HPl := hid hpl
  obtain ⟨q, hq⟩ : ∃ q, fGet L 0 = q := ⟨_, rfl⟩
  obtain ⟨O, hO⟩ : ∃ O, pic L = O := ⟨_, rfl⟩
  rw [hO]
  have HQ := hid hq
  have HO := hid hO
  have hb65 : fr + 2 * sz ≤ 65536 := by omega
  obtain ⟨p0, hp0⟩ : ∃ p0, fr + k * sz = p0 := ⟨_, rfl⟩
  have HP0 := hid hp0
  rw [hp0] at hat
  have HC : Hid (∀ w', St w0 w' (cellsT g 97 (slotC pd fr sz) :: diskT pd d :: tl) → w'.cell? ⟨g, 0, none⟩ = some pd ∧ w'.cell? ⟨g, 2, none⟩ = some (.int .i64 (sz : Int))) :=
    fun w' S' => ⟨S'.cell 0 rfl 0 rfl, S'.cell 0 rfl 2 rfl⟩
  have t1 : IntKind.i64.wrap ((p0 : Int) + (sz : Int)) = (p0 : Int) + (sz : Int) := by rw [IntKind.wrap_i64]; omega
  clear hd hN hL hpl hq hks hp0 hO
  go_enter Try.func58, Try.ntmps58
  go_wp2_with fail
  refine (place_any S k hk hb65).mono ?_
  rintro e w1 ⟨rfl, S1⟩
  rw [HP0.out]
  go_wp2_with fail
  refine wp_region_held_drew (S := (fun w' => w'.cell? ⟨g, 0, none⟩ = some pd ∧ w'.cell? ⟨g, 2, none⟩ = some (.int .i64 (sz : Int)))) (by kernel_rfl) (by exact HC.out _ S1.drew) (fun hHeld => ?_)
  change wpAnyH _ _ _ _ _ 21 (Array.replicate 21 false) _ _
  refine wpAnyH_take (i := 0) (v := ?v13) (ops_at rfl) (by kernel_rfl) (by kernel_rfl) (by kernel_rfl) (fun _ _ _ h => h) (Or.inl ⟨by rfl, ?hy13⟩) (by assumption) ?rest13
  case hy13 => intro w' hSw; (try dsimp only at hSw); go_simp; try with_reducible rfl
  try simp only [Act.put, List.setIfInBounds_toArray, List.set_cons_zero, List.set_cons_succ]
  refine wpAnyH_take (i := 1) (v := ?v14) (ops_at rfl) (by kernel_rfl) (by kernel_rfl) (by kernel_rfl) (fun _ _ _ h => h) (Or.inl ⟨by rfl, ?hy14⟩) (by assumption) ?rest14
  case hy14 => intro w' hSw; (try dsimp only at hSw); go_simp; try with_reducible rfl
  try simp only [Act.put, List.setIfInBounds_toArray, List.set_cons_zero, List.set_cons_succ]
  refine wpAnyH_take (i := 2) (v := ?v15) (ops_at rfl) (by kernel_rfl) (by kernel_rfl) (by kernel_rfl) (fun _ _ _ h => h) (Or.inl ⟨by rfl, ?hy15⟩) (by assumption) ?rest15
  case hy15 => intro w' hSw; (try dsimp only at hSw); go_simp; try with_reducible rfl
  try simp only [Act.put, List.setIfInBounds_toArray, List.set_cons_zero, List.set_cons_succ]
  refine wpAnyH_take (i := 3) (v := ?v16) (ops_at rfl) (by kernel_rfl) (by kernel_rfl) (by kernel_rfl) (fun _ _ _ h => h) (Or.inl ⟨by rfl, ?hy16⟩) (by assumption) ?rest16
  case hy16 => intro w' hSw; (try dsimp only at hSw); go_simp; try with_reducible rfl
  try simp only [Act.put, List.setIfInBounds_toArray, List.set_cons_zero, List.set_cons_succ]
  refine wpAnyH_take (i := 5) (v := ?v17) (ops_at rfl) (by kernel_rfl) (by kernel_rfl) (by kernel_rfl) (fun _ _ _ h => h) (Or.inl ⟨by rfl, ?hy17⟩) (by assumption) ?rest17
  case hy17 => intro w' hSw; (try dsimp only at hSw); go_simp; try with_reducible rfl
  try simp only [Act.put, List.setIfInBounds_toArray, List.set_cons_zero, List.set_cons_succ]
  refine wpAnyH_take (i := 6) (v := ?v18) (ops_at rfl) (by kernel_rfl) (by kernel_rfl) (by kernel_rfl) (fun _ _ _ h => h) (Or.inl ⟨by rfl, ?hy18⟩) (by assumption) ?rest18
  case hy18 => intro w' hSw; (try dsimp only at hSw); go_simp; try with_reducible rfl
  try simp only [Act.put, List.setIfInBounds_toArray, List.set_cons_zero, List.set_cons_succ]
  refine wpAnyH_take (i := 7) (v := ?v19) (ops_at rfl) (by kernel_rfl) (by kernel_rfl) (by kernel_rfl) (fun _ _ _ h => h) (Or.inl ⟨by rfl, ?hy19⟩) (by assumption) ?rest19
  case hy19 => intro w' hSw; (try dsimp only at hSw); go_simp; try with_reducible rfl
  try simp only [Act.put, List.setIfInBounds_toArray, List.set_cons_zero, List.set_cons_succ]
  refine wpAnyH_take (i := 8) (v := ?v20) (ops_at rfl) (by kernel_rfl) (by kernel_rfl) (by kernel_rfl) (fun _ _ _ h => h) (Or.inl ⟨by rfl, ?hy20⟩) (by assumption) ?rest20
  case hy20 => intro w' hSw; (try dsimp only at hSw); go_simp; try with_reducible rfl
  try simp only [Act.put, List.setIfInBounds_toArray, List.set_cons_zero, List.set_cons_succ]
  refine wpAnyH_take (i := 9) (v := ?v21) (ops_at rfl) (by kernel_rfl) (by kernel_rfl) (by kernel_rfl) (fun _ _ _ h => h) (Or.inl ⟨by rfl, ?hy21⟩) (by assumption) ?rest21
  case hy21 => intro w' hSw; (try dsimp only at hSw); go_simp; try with_reducible rfl
  try simp only [Act.put, List.setIfInBounds_toArray, List.set_cons_zero, List.set_cons_succ]
  refine wpAnyH_take (i := 10) (v := ?v22) (ops_at rfl) (by kernel_rfl) (by kernel_rfl) (by kernel_rfl) (fun _ _ _ h => h) (Or.inl ⟨by rfl, ?hy22⟩) (by assumption) ?rest22
  case hy22 => intro w' hSw; (try dsimp only at hSw); go_simp; try with_reducible rfl
  try simp only [Act.put, List.setIfInBounds_toArray, List.set_cons_zero, List.set_cons_succ]
  refine wpAnyH_take (i := 11) (v := ?v23) (ops_at rfl) (by kernel_rfl) (by kernel_rfl) (by kernel_rfl) (fun _ _ _ h => h) (Or.inl ⟨by rfl, ?hy23⟩) (by assumption) ?rest23
  case hy23 => intro w' hSw; (try dsimp only at hSw); go_simp; try with_reducible rfl
  try simp only [Act.put, List.setIfInBounds_toArray, List.set_cons_zero, List.set_cons_succ]
  refine wpAnyH_ready (rs := [4]) (by kernel_rfl) (by simp) ?_
  refine AllReadyH.cons (ops_at rfl) (fun K hK => ?_) AllReadyH.nil
  go_simp
  refine (hbytes S1.drew 1 rfl (by omega) N HB.out).mono ?_
  rintro e w2 ⟨a2, c2, rfl, S2', -⟩
  have S2 := S2'.rot
  have hcb := (S2.slA 0 rfl).2.1
  have hA2 := hid ((S2.at 0 rfl).cut p0 sz c2 (by omega))
  have ic := cut_lhI a2 N c2 p0 (p0 + sz) (p0 : Int) ((p0 : Int) + (sz : Int)) rfl (by omega) (by omega) (by omega)
  have S2t := S2.tail
  refine hK.out _ _ (by exact HC.out _ S2t) (fun hHeld => ?_)
  clear hK K
  try simp only [Act.put, List.setIfInBounds_toArray, List.set_cons_zero, List.set_cons_succ]
  refine wpAnyH_take (i := 12) (v := ?v25) (ops_at rfl) (by kernel_rfl) (by kernel_rfl) (by kernel_rfl) (fun _ _ _ h => h) (Or.inl ⟨by rfl, ?hy25⟩) (by assumption) ?rest25
  case hy25 => intro w' hSw; (try dsimp only at hSw); go_simp; try with_reducible rfl
  try simp only [Act.put, List.setIfInBounds_toArray, List.set_cons_zero, List.set_cons_succ]
  refine wpAnyH_ready (rs := [13]) (by kernel_rfl) (by simp) ?_
  refine AllReadyH.cons (ops_at rfl) (fun K hK => ?_) AllReadyH.nil
  go_simp
  refine (frGet_any (cutH a2 p0 c2) L sz (c2 - p0) 0 w2 HPl.out (by omega) (by omega) (by rw [← HL.out, HP0.out]; exact hA2.out)).mono ?_
  rintro e w3 ⟨⟨a3, c3, rfl, ho3⟩, hb3⟩
  rw [HQ.out] at ho3 ⊢
  have S3 := (S2t.bytes ho3 hb3).rot
  clear ho3 hb3
  refine hK.out _ _ (by exact HC.out _ S3.tail) (fun hHeld => ?_)
  clear hK K
  try simp only [Act.put, List.setIfInBounds_toArray, List.set_cons_zero, List.set_cons_succ]
  refine wpAnyH_take (i := 14) (v := ?v27) (ops_at rfl) (by kernel_rfl) (by kernel_rfl) (by kernel_rfl) (fun _ _ _ h => h) (Or.inl ⟨by rfl, ?hy27⟩) (by assumption) ?rest27
  case hy27 => intro w' hSw; (try dsimp only at hSw); go_simp; try with_reducible rfl
  try simp only [Act.put, List.setIfInBounds_toArray, List.set_cons_zero, List.set_cons_succ]
  refine wpAnyH_take (i := 15) (v := ?v28) (ops_at rfl) (by kernel_rfl) (by kernel_rfl) (by kernel_rfl) (fun _ _ _ h => h) (Or.inl ⟨by rfl, ?hy28⟩) (by assumption) ?rest28
  case hy28 => intro w' hSw; (try dsimp only at hSw); go_simp; try with_reducible rfl
  try simp only [Act.put, List.setIfInBounds_toArray, List.set_cons_zero, List.set_cons_succ]
  refine wpAnyH_take (i := 16) (v := ?v29) (ops_at rfl) (by kernel_rfl) (by kernel_rfl) (by kernel_rfl) (fun _ _ _ h => h) (Or.inl ⟨by rfl, ?hy29⟩) (by assumption) ?rest29
  case hy29 => intro w' hSw; (try dsimp only at hSw); go_simp; try with_reducible rfl
  try simp only [Act.put, List.setIfInBounds_toArray, List.set_cons_zero, List.set_cons_succ]
  refine wpAnyH_take (i := 17) (v := ?v30) (ops_at rfl) (by kernel_rfl) (by kernel_rfl) (by kernel_rfl) (fun _ _ _ h => h) (Or.inl ⟨by rfl, ?hy30⟩) (by assumption) ?rest30
  case hy30 => intro w' hSw; (try dsimp only at hSw); go_simp; try with_reducible rfl
  try simp only [Act.put, List.setIfInBounds_toArray, List.set_cons_zero, List.set_cons_succ]
  refine wpAnyH_take (i := 18) (v := ?v31) (ops_at rfl) (by kernel_rfl) (by kernel_rfl) (by kernel_rfl) (fun _ _ _ h => h) (Or.inl ⟨by rfl, ?hy31⟩) (by assumption) ?rest31
  case hy31 => intro w' hSw; (try dsimp only at hSw); go_simp; try with_reducible rfl
  try simp only [Act.put, List.setIfInBounds_toArray, List.set_cons_zero, List.set_cons_succ]
  refine wpAnyH_take (i := 19) (v := ?v32) (ops_at rfl) (by kernel_rfl) (by kernel_rfl) (by kernel_rfl) (fun _ _ _ h => h) (Or.inl ⟨by rfl, ?hy32⟩) (by assumption) ?rest32
  case hy32 => intro w' hSw; (try dsimp only at hSw); go_simp; try with_reducible rfl
  try simp only [Act.put, List.setIfInBounds_toArray, List.set_cons_zero, List.set_cons_succ]
  refine wpAnyH_take (i := 20) (v := ?v33) (ops_at rfl) (by kernel_rfl) (by kernel_rfl) (by kernel_rfl) (fun _ _ _ h => h) (Or.inl ⟨by rfl, ?hy33⟩) (by assumption) ?rest33
  case hy33 => intro w' hSw; (try dsimp only at hSw); go_simp; try with_reducible rfl
  try simp only [Act.put, List.setIfInBounds_toArray, List.set_cons_zero, List.set_cons_succ]
  refine wpAnyH_done (by kernel_rfl) ?_ _
  obtain ⟨p, nx, wh⟩ := q
  simp only [] at S3
  obtain ⟨m, hm⟩ : ∃ m, p.length = m := ⟨_, rfl⟩
  have HM := hid hm
  rw [hm] at S3
  have hs3 := S3.slA 0 rfl
  have hmb : m ≤ 140737488355328 := by
    have h1 : (fGet L (0 : Int)).1.length ≤ 4000 := fGet_le L 0
    rw [HQ.out] at h1
    have : p.length ≤ 4000 := h1
    omega
  clear hm
  rcases hg : getNum p 0 with _ | ⟨age, next⟩
  · have HG := hid hg
    clear hg
    have HO2 : Hid (none = O) := by rw [Hid, ← HO.out]; unfold pic; rw [HQ.out]; simp only [HG.out]; split <;> rfl
    go_wp2_with fail
    rw [HM.out]
    refine (getNum_any a3 p m c3 0 w3 HM.out hmb hs3.2.1 (by exact hs3.2.2.2.2)).mono ?_
    rintro e w4 ⟨rfl, rfl⟩
    rw [HG.out, res3]
    go_wp2
    all_goals (go_ret3; rw [← HO2.out]; exact ⟨none, 0, rfl, Nat.le_refl _, Nat.zero_le _, fun _ => rfl, S3.tail.roNil⟩)
  · have HG := hid hg
    have hgs := getNum_some hg
    clear hg
    by_cases hwh : wh = 1
    · have g1 : (wh != 1) = false := by rw [hwh]; rfl
      have HO2 : Hid (some (p.drop next, age) = O) := by rw [Hid, ← HO.out]; unfold pic; rw [HQ.out]; simp only [HG.out, if_pos hwh]; rfl
      have hnm : next ≤ m := by rw [← HM.out]; omega
      have ic := cut_lI a3 m c3 next (next : Int) rfl hnm hs3.2.1
      have S4 := S3.toRo next hnm
      clear hwh hgs
      go_wp2_with fail
      rw [HM.out]
      refine (getNum_any a3 p m c3 0 w3 HM.out hmb hs3.2.1 (by exact hs3.2.2.2.2)).mono ?_
      rintro e w4 ⟨rfl, rfl⟩
      rw [HG.out, res3]
      go_wp2
      go_ret3
      rw [← HO2.out]
      have hdl : (p.drop next).length = m - next := by rw [List.length_drop, HM.out]
      refine ⟨cutH a3 next c3, c3 - next, by show Ending.returned (.tuple #[.slice (cutH a3 next c3) (m - next) (c3 - next), .int .i64 (age : Int), .bool true]) = .returned (.tuple #[.slice (cutH a3 next c3) (p.drop next).length (c3 - next), .int .i64 (age : Int), .bool true]); rw [hdl], by show (p.drop next).length ≤ _; omega, by omega, ?_, S4⟩
      intro h
      unfold cutH at h
      split at h
      · omega
      · rw [Option.map_eq_none_iff] at h
        have := hs3.2.2.2.1 h
        omega
    · have g1 : (wh != 1) = true := by simpa using hwh
      have HO2 : Hid (none = O) := by rw [Hid, ← HO.out]; unfold pic; rw [HQ.out]; simp only [if_neg hwh]
      clear hwh hgs
      go_wp2_with fail
      rw [HM.out]
      refine (getNum_any a3 p m c3 0 w3 HM.out hmb hs3.2.1 (by exact hs3.2.2.2.2)).mono ?_
      rintro e w4 ⟨rfl, rfl⟩
      rw [HG.out, res3]
      go_wp2
      go_ret3
      rw [← HO2.out]
      exact ⟨none, 0, rfl, Nat.le_refl _, Nat.zero_le _, fun _ => rfl, S3.tail.roNil⟩
set_option maxRecDepth 10000 in
set_option maxHeartbeats 1600000 in
theorem newest_any (S : St w0 w (cellsT g 97 (slotC pd fr sz) :: diskT pd d :: tl)) (hf : fr + 2 * sz ≤ d.lasts.length) (hw : d.waits.length ≤ 1000) :
    Calls Try.prog 57 #[.pointer (some ⟨g, 0, none⟩)] w fun e w' => e = .returned (.int .i64 (newestI (pic (piece d.bytes (fr + 0 * sz) sz)) (pic (piece d.bytes (fr + 1 * sz) sz)))) ∧ St w0 w' (cellsT g 97 (slotC pd fr sz) :: diskT pd d :: tl) := by
  rw [← newS_is]
  obtain ⟨nb, hnb⟩ : ∃ nb : Nat → Int × Int, nb = fun k => if k = 0 then (-1, -1) else if k = 1 then newS (-1, -1) 0 (pic (piece d.bytes (fr + 0 * sz) sz)) else newS (newS (-1, -1) 0 (pic (piece d.bytes (fr + 0 * sz) sz))) 1 (pic (piece d.bytes (fr + 1 * sz) sz)) := ⟨_, rfl⟩
  have H0 : Hid (nb 0 = (-1, -1)) := by rw [hnb]; rfl
  have H2 : Hid (nb 2 = newS (newS (-1, -1) 0 (pic (piece d.bytes (fr + 0 * sz) sz))) 1 (pic (piece d.bytes (fr + 1 * sz) sz))) := by rw [hnb]; rfl
  have HS : Hid (∀ k, k < 2 → nb (k + 1) = newS (nb k) k (pic (piece d.bytes (fr + k * sz) sz))) := by
    intro k hk
    rcases (show k = 0 ∨ k = 1 by omega) with rfl | rfl
    · rw [hnb]; rfl
    · rw [hnb]; rfl
  have HW := hid S
  clear hnb
  go_enter Try.func57, Try.ntmps57
  go_wp2_with fail
  go_loopw [3, 4, 9] (fun b y i wr => ∃ k : Nat, k ≤ 2 ∧ i = .int .i64 k ∧ b = .int .i64 (nb k).1 ∧ y = .int .i64 (nb k).2 ∧ St w0 wr (cellsT g 97 (slotC pd fr sz) :: diskT pd d :: tl)) (fun _ _ i _ => 2 - (intOf i).toNat)
  case atStart => exact ⟨0, Nat.zero_le _, rfl, by rw [H0.out], by rw [H0.out], HW.out⟩
  case round =>
    obtain ⟨k, hk, rfl, rfl, rfl, Sk⟩ := hrel
    by_cases hlt : k < 2
    · have g0 : decide ((k : Int) < 2) = true := decide_eq_true (by omega)
      have HSk := hid (HS.out k hlt)
      obtain ⟨O, hO⟩ : ∃ O, pic (piece d.bytes (fr + k * sz) sz) = O := ⟨_, rfl⟩
      have HP := hid (picture_any Sk k (by omega) hf hw)
      rw [hO] at HP HSk
      clear hO
      obtain ⟨bb, hB⟩ : ∃ bb, nb k = bb := ⟨_, rfl⟩
      obtain ⟨b, y⟩ := bb
      rw [hB] at HSk ⊢
      clear hB
      rcases O with _ | ⟨q, age⟩
      · go_wp2_with fail
        refine HP.out.mono ?_
        rintro e w1 ⟨a1, c1, rfl, -, -, -, S1⟩
        have S2 := S1.tail
        go_wp2
        go_roundw
        case rel => exact ⟨k + 1, by omega, by go_num, by rw [HSk.out]; rfl, by rw [HSk.out]; rfl, S2⟩
        case measure => simp [intOf]; omega
      · by_cases hlt2 : y < (age : Int)
        · have g1 : decide (y < (age : Int)) = true := decide_eq_true hlt2
          have e1 : Hid (nb (k + 1) = ((k : Int), (age : Int))) := by rw [Hid, HSk.out]; exact if_pos hlt2
          go_wp2_with fail
          refine HP.out.mono ?_
          rintro e w1 ⟨a1, c1, rfl, -, -, -, S1⟩
          have S2 := S1.tail
          simp only [picA, Option.isSome_some]
          go_wp2
          go_roundw
          case rel => exact ⟨k + 1, by omega, by go_num, by rw [e1.out], by rw [e1.out], S2⟩
          case measure => simp [intOf]; omega
        · have g1 : decide (y < (age : Int)) = false := decide_eq_false hlt2
          have e1 : Hid (nb (k + 1) = (b, y)) := by rw [Hid, HSk.out]; exact if_neg hlt2
          go_wp2_with fail
          refine HP.out.mono ?_
          rintro e w1 ⟨a1, c1, rfl, -, -, -, S1⟩
          have S2 := S1.tail
          simp only [picA, Option.isSome_some]
          go_wp2
          go_roundw
          case rel => exact ⟨k + 1, by omega, by go_num, by rw [e1.out], by rw [e1.out], S2⟩
          case measure => simp [intOf]; omega
    · have g0 : decide ((k : Int) < 2) = false := decide_eq_false (by omega)
      have ek : k = 2 := by omega
      have HE := hid ek
      clear ek
      go_wp2
      go_ret
      have := H2.out
      rw [← HE.out] at this
      rw [this]
      exact ⟨rfl, Sk⟩
theorem load_is (x y : Option (List UInt8 × Nat)) : (newestI x y = -1 ∧ loadO x y = none) ∨ (newestI x y = 0 ∧ loadO x y = x) ∨ (newestI x y = 1 ∧ loadO x y = y) := by
  rcases x with _ | p <;> rcases y with _ | q
  · exact .inl ⟨rfl, rfl⟩
  · exact .inr (.inr ⟨rfl, rfl⟩)
  · exact .inr (.inl ⟨rfl, rfl⟩)
  · unfold newestI loadO
    simp only []
    by_cases h : p.2 < q.2
    · rw [if_pos h, if_pos h]; exact .inr (.inr ⟨rfl, rfl⟩)
    · rw [if_neg h, if_neg h]; exact .inr (.inl ⟨rfl, rfl⟩)
theorem slLoad_nil (w : World) : Calls Try.prog 32 #[.pointer none] w fun e w' => e = .returned (.tuple #[.slice none 0 0, .int .i64 0, .bool false]) ∧ w = w' := by
  go_enter Try.func32, Try.ntmps32
  go_wp2
  go_ret3
  exact ⟨rfl, rfl⟩
/-- What the two slots of a disk show. -/
def DSt.shows (d : DSt) (fr sz : Nat) : Option (List UInt8 × Nat) := loadO (pic (piece d.bytes (fr + 0 * sz) sz)) (pic (piece d.bytes (fr + 1 * sz) sz))
set_option maxRecDepth 10000 in
set_option maxHeartbeats 1600000 in
theorem slLoad_any (S : St w0 w (cellsT g 97 (slotC pd fr sz) :: diskT pd d :: tl)) (hf : fr + 2 * sz ≤ d.lasts.length) (hw : d.waits.length ≤ 1000) :
    Calls Try.prog 32 #[.pointer (some ⟨g, 0, none⟩)] w fun e w' => PicPost w0 (cellsT g 97 (slotC pd fr sz) :: diskT pd d :: tl) (d.shows fr sz) e w' := by
  unfold DSt.shows
  have HNw := fun (w1 : World) (S1 : St w0 w1 (cellsT g 97 (slotC pd fr sz) :: diskT pd d :: tl)) => newest_any S1 hf hw
  have HP0 := fun (w1 : World) (S1 : St w0 w1 (cellsT g 97 (slotC pd fr sz) :: diskT pd d :: tl)) => picture_any S1 0 (by omega) hf hw
  have HP1 := fun (w1 : World) (S1 : St w0 w1 (cellsT g 97 (slotC pd fr sz) :: diskT pd d :: tl)) => picture_any S1 1 (by omega) hf hw
  obtain ⟨x, hx⟩ : ∃ x, pic (piece d.bytes (fr + 0 * sz) sz) = x := ⟨_, rfl⟩
  obtain ⟨y, hy⟩ : ∃ y, pic (piece d.bytes (fr + 1 * sz) sz) = y := ⟨_, rfl⟩
  rw [hx, hy] at HNw ⊢
  rw [hx] at HP0
  rw [hy] at HP1
  have KN := hid HNw
  have K0 := hid HP0
  have K1 := hid HP1
  clear HNw HP0 HP1 hx hy
  rcases load_is x y with ⟨e1, e2⟩ | ⟨e1, e2⟩ | ⟨e1, e2⟩
  · have E1 := hid e1
    have E2 := hid e2
    clear e1 e2
    go_enter Try.func32, Try.ntmps32
    go_wp2_with fail
    refine (KN.out _ S).mono ?_
    rintro e w1 ⟨rfl, S1⟩
    rw [E1.out]
    go_wp2
    go_ret3
    rw [E2.out]
    exact ⟨none, 0, rfl, Nat.le_refl _, Nat.zero_le _, fun _ => rfl, S1.roNil⟩
  · have E1 := hid e1
    have E2 := hid e2
    clear e1 e2
    go_enter Try.func32, Try.ntmps32
    go_wp2_with fail
    refine (KN.out _ S).mono ?_
    rintro e w1 ⟨rfl, S1⟩
    rw [E1.out]
    go_wp2_with fail
    refine (KN.out _ S1).mono ?_
    rintro e w2 ⟨rfl, S2⟩
    rw [E1.out]
    go_wp2_with fail
    refine (K0.out _ S2).mono ?_
    rintro e w3 ⟨a3, c3, rfl, h1, h2, h3, S3⟩
    have HH := hid (And.intro h1 (And.intro h2 h3))
    clear h1 h2 h3
    go_wp2
    go_ret3
    rw [E2.out]
    exact ⟨a3, c3, rfl, HH.out.1, HH.out.2.1, HH.out.2.2, S3⟩
  · have E1 := hid e1
    have E2 := hid e2
    clear e1 e2
    go_enter Try.func32, Try.ntmps32
    go_wp2_with fail
    refine (KN.out _ S).mono ?_
    rintro e w1 ⟨rfl, S1⟩
    rw [E1.out]
    go_wp2_with fail
    refine (KN.out _ S1).mono ?_
    rintro e w2 ⟨rfl, S2⟩
    rw [E1.out]
    go_wp2_with fail
    refine (K1.out _ S2).mono ?_
    rintro e w3 ⟨a3, c3, rfl, h1, h2, h3, S3⟩
    have HH := hid (And.intro h1 (And.intro h2 h3))
    clear h1 h2 h3
    go_wp2
    go_ret3
    rw [E2.out]
    exact ⟨a3, c3, rfl, HH.out.1, HH.out.2.1, HH.out.2.2, S3⟩
end

end Go.Proofs.Ytmfbbonppmhabaa
