/- The document's slots (dunnageref06): Picture, Load, Open. -/
import Derived.Test.YtmfbbonppmhabaaSlots
namespace Go.Proofs.Ytmfbbonppmhabaa
set_option linter.unusedVariables false
set_option linter.unusedSimpArgs false
open Go.RowKit

def rslotC (pr : Value) (fr sz : Nat) : List Value := [pr, .int .i64 (fr : Int), .int .i64 (sz : Int)]
/-- An age; -1: there is no picture. -/
def picI (o : Option (List UInt8 × Nat)) : Int := match o with | none => -1 | some p => (p.2 : Int)
def RPicPost (w0 : World) (r : List Thing) (o : Option (List UInt8 × Nat)) (e : Ending) (w' : World) : Prop :=
  ∃ a c, e = .returned (.tuple #[.slice a (picL o).length c, .int .i64 (picI o)]) ∧ (picL o).length ≤ c ∧ c ≤ maxLen ∧ (a = none → c = 0) ∧ St w0 w' (roT a (picL o) :: r)
theorem loadO_is (x y : Option (List UInt8 × Nat)) : loadO x y = if picI x < picI y then y else x := by
  rcases x with _ | p <;> rcases y with _ | q
  · rfl
  · exact (if_pos (by show (-1 : Int) < (q.2 : Int); omega)).symm
  · exact (if_neg (by show ¬ (p.2 : Int) < -1; omega)).symm
  · show (if p.2 < q.2 then _ else _) = if (p.2 : Int) < (q.2 : Int) then _ else _
    by_cases h : p.2 < q.2
    · rw [if_pos h, if_pos (by omega)]
    · rw [if_neg h, if_neg (by omega)]
section
variable {w0 w : World} {tl : List Thing} {pr : Value} {r : RD} {g fr sz : Nat}
set_option maxRecDepth 10000 in
set_option maxHeartbeats 1600000 in
theorem rPicture_any (S : St w0 w (cellsT g 108 (rslotC pr fr sz) :: rdT pr r :: tl)) (k : Nat) (hk : k ≤ 1) (hf : fr + 2 * sz ≤ r.b.length) (hps : r.ps.length ≤ 10000000) (hbl : r.bytes.length = r.b.length) :
    Calls Try.prog 67 #[.pointer (some ⟨g, 0, none⟩), .int .i64 k] w fun e w' => RPicPost w0 (cellsT g 108 (rslotC pr fr sz) :: rdT pr r :: tl) (pic (piece r.bytes (fr + k * sz) sz)) e w' := by
  obtain ⟨hok, gr, vb, va, vv, rfl, -⟩ := (S.front 1 rfl).rdOpen
  have hbig := hok.big
  obtain ⟨N, hN⟩ : ∃ N, r.b.length = N := ⟨_, rfl⟩
  have HNn := hid hN
  rw [hN] at hbig hf hbl
  have HB := hid hbl
  have hks : k * sz ≤ sz := Nat.le_trans (Nat.mul_le_mul_right sz hk) (by omega)
  have hat : fr + k * sz + sz ≤ N := by omega
  have hpl := piece_len (l := r.bytes) (fr := fr + k * sz) (sz := sz) (by rw [hbl]; exact hat)
  obtain ⟨L, hL⟩ : ∃ L, piece r.bytes (fr + k * sz) sz = L := ⟨_, rfl⟩
  rw [hL] at hpl ⊢
  have HL := hid hL
  have HPl := hid hpl
  obtain ⟨q, hq⟩ : ∃ q, fGet L 0 = q := ⟨_, rfl⟩
  obtain ⟨O, hO⟩ : ∃ O, pic L = O := ⟨_, rfl⟩
  rw [hO]
  have HQ := hid hq
  have HO := hid hO
  obtain ⟨m0, hm0⟩ : ∃ m0, k * sz = m0 := ⟨_, rfl⟩
  have hm1 : (k + 1) * sz = m0 + sz := by rw [Nat.add_mul, hm0, Nat.one_mul]
  have HM0 := hid hm0
  rw [hm0] at hat hks
  have t1 : IntKind.i64.wrap ((k : Int) * (sz : Int)) = (m0 : Int) := by rw [← Int.natCast_mul, hm0, IntKind.wrap_i64]; omega
  have t2 : IntKind.i64.wrap ((fr : Int) + (m0 : Int)) = ((fr + m0 : Nat) : Int) := by rw [IntKind.wrap_i64]; omega
  have t3 : IntKind.i64.wrap ((k : Int) + 1) = ((k + 1 : Nat) : Int) := by rw [IntKind.wrap_i64]; omega
  have t4 : IntKind.i64.wrap (((k + 1 : Nat) : Int) * (sz : Int)) = ((m0 + sz : Nat) : Int) := by rw [← Int.natCast_mul, hm1, IntKind.wrap_i64]; omega
  have t5 : IntKind.i64.wrap ((fr : Int) + ((m0 + sz : Nat) : Int)) = ((fr + m0 : Nat) : Int) + (sz : Int) := by rw [IntKind.wrap_i64]; omega
  have c0 := S.cell 0 rfl 0 rfl
  clear hN hL hpl hq hO hbl hm0 hm1 hok
  obtain ⟨p0, hp0⟩ : ∃ p0, fr + m0 = p0 := ⟨_, rfl⟩
  obtain ⟨p1, hp1⟩ : ∃ p1, m0 + sz = p1 := ⟨_, rfl⟩
  obtain ⟨k1, hk1⟩ : ∃ k1, k + 1 = k1 := ⟨_, rfl⟩
  have hp2 : fr + p1 = p0 + sz := by omega
  rw [hk1] at t3 t4
  rw [hp1] at t4 t5
  rw [hp0] at t2 t5
  have HP0 := hid hp0
  rw [hp0] at hat
  clear hp0 hp1 hk1
  go_enter Try.func67, Try.ntmps67
  go_wp2_with fail
  refine (rdbytes_any (by exact S.front 1 rfl) N HNn.out (by omega)).mono ?_
  rintro e w1 ⟨a2, c2, rfl, S1, -⟩
  have S2 : St w0 w1 (bytesT (.slice a2 N c2) r.bytes :: cellsT g 108 (rslotC (.pointer (some ⟨gr, 0, none⟩)) fr sz) :: rdT (.pointer (some ⟨gr, 0, none⟩)) r :: tl) := (S1.front 2 rfl).front 1 rfl
  have hcb := (S2.slA 0 rfl).2.1
  have hA2 := hid ((S2.drew.at 0 rfl).cut p0 sz c2 (by omega))
  have ic := cut_lhI a2 N c2 p0 (p0 + sz) (p0 : Int) ((p0 : Int) + (sz : Int)) rfl (by omega) (by omega) (by omega)
  have HC : Hid (∀ w', St w0 w' (cellsT g 108 (rslotC (.pointer (some ⟨gr, 0, none⟩)) fr sz) :: rdT (.pointer (some ⟨gr, 0, none⟩)) r :: tl) → w'.cell? ⟨g, 1, none⟩ = some (.int .i64 (fr : Int)) ∧ w'.cell? ⟨g, 2, none⟩ = some (.int .i64 (sz : Int))) := fun w' S' => ⟨S'.cell 0 rfl 1 rfl, S'.cell 0 rfl 2 rfl⟩
  have S2t := S2.tail
  go_wp2_with fail
  refine wp_region_held_drew (S := (fun w' => w'.cell? ⟨g, 1, none⟩ = some (.int .i64 (fr : Int)) ∧ w'.cell? ⟨g, 2, none⟩ = some (.int .i64 (sz : Int)))) (by kernel_rfl) (by exact HC.out _ S2t.drew) (fun hHeld => ?_)
  change wpAnyH _ _ _ _ _ 33 (Array.replicate 33 false) _ _
  refine wpAnyH_take (i := 0) (v := ?v1) (ops_at rfl) (by kernel_rfl) (by kernel_rfl) (by kernel_rfl) (fun _ _ _ h => h) (Or.inl ⟨by rfl, ?hy1⟩) (by assumption) ?rest1
  case hy1 => intro w' hSw; (try dsimp only at hSw); go_simp; try with_reducible rfl
  try simp only [Act.put, List.setIfInBounds_toArray, List.set_cons_zero, List.set_cons_succ]
  refine wpAnyH_take (i := 1) (v := ?v2) (ops_at rfl) (by kernel_rfl) (by kernel_rfl) (by kernel_rfl) (fun _ _ _ h => h) (Or.inl ⟨by rfl, ?hy2⟩) (by assumption) ?rest2
  case hy2 => intro w' hSw; (try dsimp only at hSw); go_simp; try with_reducible rfl
  try simp only [Act.put, List.setIfInBounds_toArray, List.set_cons_zero, List.set_cons_succ]
  refine wpAnyH_take (i := 2) (v := ?v3) (ops_at rfl) (by kernel_rfl) (by kernel_rfl) (by kernel_rfl) (fun _ _ _ h => h) (Or.inl ⟨by rfl, ?hy3⟩) (by assumption) ?rest3
  case hy3 => intro w' hSw; (try dsimp only at hSw); go_simp; try with_reducible rfl
  try simp only [Act.put, List.setIfInBounds_toArray, List.set_cons_zero, List.set_cons_succ]
  refine wpAnyH_take (i := 3) (v := ?v4) (ops_at rfl) (by kernel_rfl) (by kernel_rfl) (by kernel_rfl) (fun _ _ _ h => h) (Or.inl ⟨by rfl, ?hy4⟩) (by assumption) ?rest4
  case hy4 => intro w' hSw; (try dsimp only at hSw); go_simp; try with_reducible rfl
  try simp only [Act.put, List.setIfInBounds_toArray, List.set_cons_zero, List.set_cons_succ]
  refine wpAnyH_take (i := 4) (v := ?v5) (ops_at rfl) (by kernel_rfl) (by kernel_rfl) (by kernel_rfl) (fun _ _ _ h => h) (Or.inl ⟨by rfl, ?hy5⟩) (by assumption) ?rest5
  case hy5 => intro w' hSw; (try dsimp only at hSw); go_simp; try with_reducible rfl
  try simp only [Act.put, List.setIfInBounds_toArray, List.set_cons_zero, List.set_cons_succ]
  refine wpAnyH_take (i := 5) (v := ?v6) (ops_at rfl) (by kernel_rfl) (by kernel_rfl) (by kernel_rfl) (fun _ _ _ h => h) (Or.inl ⟨by rfl, ?hy6⟩) (by assumption) ?rest6
  case hy6 => intro w' hSw; (try dsimp only at hSw); go_simp; try with_reducible rfl
  try simp only [Act.put, List.setIfInBounds_toArray, List.set_cons_zero, List.set_cons_succ]
  refine wpAnyH_take (i := 6) (v := ?v7) (ops_at rfl) (by kernel_rfl) (by kernel_rfl) (by kernel_rfl) (fun _ _ _ h => h) (Or.inl ⟨by rfl, ?hy7⟩) (by assumption) ?rest7
  case hy7 => intro w' hSw; (try dsimp only at hSw); go_simp; try with_reducible rfl
  try simp only [Act.put, List.setIfInBounds_toArray, List.set_cons_zero, List.set_cons_succ]
  refine wpAnyH_take (i := 7) (v := ?v8) (ops_at rfl) (by kernel_rfl) (by kernel_rfl) (by kernel_rfl) (fun _ _ _ h => h) (Or.inl ⟨by rfl, ?hy8⟩) (by assumption) ?rest8
  case hy8 => intro w' hSw; (try dsimp only at hSw); go_simp; try with_reducible rfl
  try simp only [Act.put, List.setIfInBounds_toArray, List.set_cons_zero, List.set_cons_succ]
  refine wpAnyH_take (i := 8) (v := ?v9) (ops_at rfl) (by kernel_rfl) (by kernel_rfl) (by kernel_rfl) (fun _ _ _ h => h) (Or.inl ⟨by rfl, ?hy9⟩) (by assumption) ?rest9
  case hy9 => intro w' hSw; (try dsimp only at hSw); go_simp; try with_reducible rfl
  try simp only [Act.put, List.setIfInBounds_toArray, List.set_cons_zero, List.set_cons_succ]
  refine wpAnyH_take (i := 9) (v := ?v10) (ops_at rfl) (by kernel_rfl) (by kernel_rfl) (by kernel_rfl) (fun _ _ _ h => h) (Or.inl ⟨by rfl, ?hy10⟩) (by assumption) ?rest10
  case hy10 => intro w' hSw; (try dsimp only at hSw); go_simp; try with_reducible rfl
  try simp only [Act.put, List.setIfInBounds_toArray, List.set_cons_zero, List.set_cons_succ]
  refine wpAnyH_take (i := 10) (v := ?v11) (ops_at rfl) (by kernel_rfl) (by kernel_rfl) (by kernel_rfl) (fun _ _ _ h => h) (Or.inl ⟨by rfl, ?hy11⟩) (by assumption) ?rest11
  case hy11 => intro w' hSw; (try dsimp only at hSw); go_simp; try with_reducible rfl
  try simp only [Act.put, List.setIfInBounds_toArray, List.set_cons_zero, List.set_cons_succ]
  refine wpAnyH_take (i := 11) (v := ?v12) (ops_at rfl) (by kernel_rfl) (by kernel_rfl) (by kernel_rfl) (fun _ _ _ h => h) (Or.inl ⟨by rfl, ?hy12⟩) (by assumption) ?rest12
  case hy12 => intro w' hSw; (try dsimp only at hSw); go_simp; try with_reducible rfl
  try simp only [Act.put, List.setIfInBounds_toArray, List.set_cons_zero, List.set_cons_succ]
  refine wpAnyH_take (i := 12) (v := ?v13) (ops_at rfl) (by kernel_rfl) (by kernel_rfl) (by kernel_rfl) (fun _ _ _ h => h) (Or.inl ⟨by rfl, ?hy13⟩) (by assumption) ?rest13
  case hy13 => intro w' hSw; (try dsimp only at hSw); go_simp; try with_reducible rfl
  try simp only [Act.put, List.setIfInBounds_toArray, List.set_cons_zero, List.set_cons_succ]
  refine wpAnyH_take (i := 13) (v := ?v14) (ops_at rfl) (by kernel_rfl) (by kernel_rfl) (by kernel_rfl) (fun _ _ _ h => h) (Or.inl ⟨by rfl, ?hy14⟩) (by assumption) ?rest14
  case hy14 => intro w' hSw; (try dsimp only at hSw); go_simp; try with_reducible rfl
  try simp only [Act.put, List.setIfInBounds_toArray, List.set_cons_zero, List.set_cons_succ]
  refine wpAnyH_take (i := 14) (v := ?v15) (ops_at rfl) (by kernel_rfl) (by kernel_rfl) (by kernel_rfl) (fun _ _ _ h => h) (Or.inl ⟨by rfl, ?hy15⟩) (by assumption) ?rest15
  case hy15 => intro w' hSw; (try dsimp only at hSw); go_simp; try with_reducible rfl
  try simp only [Act.put, List.setIfInBounds_toArray, List.set_cons_zero, List.set_cons_succ]
  refine wpAnyH_take (i := 15) (v := ?v16) (ops_at rfl) (by kernel_rfl) (by kernel_rfl) (by kernel_rfl) (fun _ _ _ h => h) (Or.inl ⟨by rfl, ?hy16⟩) (by assumption) ?rest16
  case hy16 => intro w' hSw; (try dsimp only at hSw); go_simp; try with_reducible rfl
  try simp only [Act.put, List.setIfInBounds_toArray, List.set_cons_zero, List.set_cons_succ]
  refine wpAnyH_take (i := 16) (v := ?v17) (ops_at rfl) (by kernel_rfl) (by kernel_rfl) (by kernel_rfl) (fun _ _ _ h => h) (Or.inl ⟨by rfl, ?hy17⟩) (by assumption) ?rest17
  case hy17 => intro w' hSw; (try dsimp only at hSw); go_simp; try with_reducible rfl
  try simp only [Act.put, List.setIfInBounds_toArray, List.set_cons_zero, List.set_cons_succ]
  refine wpAnyH_take (i := 17) (v := ?v18) (ops_at rfl) (by kernel_rfl) (by kernel_rfl) (by kernel_rfl) (fun _ _ _ h => h) (Or.inl ⟨by rfl, ?hy18⟩) (by assumption) ?rest18
  case hy18 => intro w' hSw; (try dsimp only at hSw); go_simp; try with_reducible rfl
  try simp only [Act.put, List.setIfInBounds_toArray, List.set_cons_zero, List.set_cons_succ]
  refine wpAnyH_take (i := 18) (v := ?v19) (ops_at rfl) (by kernel_rfl) (by kernel_rfl) (by kernel_rfl) (fun _ _ _ h => h) (Or.inl ⟨by rfl, ?hy19⟩) (by assumption) ?rest19
  case hy19 => intro w' hSw; (try dsimp only at hSw); go_simp; try with_reducible rfl
  try simp only [Act.put, List.setIfInBounds_toArray, List.set_cons_zero, List.set_cons_succ]
  refine wpAnyH_take (i := 19) (v := ?v20) (ops_at rfl) (by kernel_rfl) (by kernel_rfl) (by kernel_rfl) (fun _ _ _ h => h) (Or.inl ⟨by rfl, ?hy20⟩) (by assumption) ?rest20
  case hy20 => intro w' hSw; (try dsimp only at hSw); go_simp; try with_reducible rfl
  try simp only [Act.put, List.setIfInBounds_toArray, List.set_cons_zero, List.set_cons_succ]
  refine wpAnyH_take (i := 20) (v := ?v21) (ops_at rfl) (by kernel_rfl) (by kernel_rfl) (by kernel_rfl) (fun _ _ _ h => h) (Or.inl ⟨by rfl, ?hy21⟩) (by assumption) ?rest21
  case hy21 => intro w' hSw; (try dsimp only at hSw); go_simp; try with_reducible rfl
  try simp only [Act.put, List.setIfInBounds_toArray, List.set_cons_zero, List.set_cons_succ]
  refine wpAnyH_take (i := 21) (v := ?v22) (ops_at rfl) (by kernel_rfl) (by kernel_rfl) (by kernel_rfl) (fun _ _ _ h => h) (Or.inl ⟨by rfl, ?hy22⟩) (by assumption) ?rest22
  case hy22 => intro w' hSw; (try dsimp only at hSw); go_simp; try with_reducible rfl
  try simp only [Act.put, List.setIfInBounds_toArray, List.set_cons_zero, List.set_cons_succ]
  refine wpAnyH_take (i := 22) (v := ?v23) (ops_at rfl) (by kernel_rfl) (by kernel_rfl) (by kernel_rfl) (fun _ _ _ h => h) (Or.inl ⟨by rfl, ?hy23⟩) (by assumption) ?rest23
  case hy23 => intro w' hSw; (try dsimp only at hSw); go_simp; try with_reducible rfl
  try simp only [Act.put, List.setIfInBounds_toArray, List.set_cons_zero, List.set_cons_succ]
  refine wpAnyH_take (i := 23) (v := ?v24) (ops_at rfl) (by kernel_rfl) (by kernel_rfl) (by kernel_rfl) (fun _ _ _ h => h) (Or.inl ⟨by rfl, ?hy24⟩) (by assumption) ?rest24
  case hy24 => intro w' hSw; (try dsimp only at hSw); go_simp; try with_reducible rfl
  try simp only [Act.put, List.setIfInBounds_toArray, List.set_cons_zero, List.set_cons_succ]
  refine wpAnyH_take (i := 24) (v := ?v25) (ops_at rfl) (by kernel_rfl) (by kernel_rfl) (by kernel_rfl) (fun _ _ _ h => h) (Or.inl ⟨by rfl, ?hy25⟩) (by assumption) ?rest25
  case hy25 => intro w' hSw; (try dsimp only at hSw); go_simp; try with_reducible rfl
  try simp only [Act.put, List.setIfInBounds_toArray, List.set_cons_zero, List.set_cons_succ]
  refine wpAnyH_ready (rs := [25]) (by kernel_rfl) (by simp) ?_
  refine AllReadyH.cons (ops_at rfl) (fun K hK => ?_) AllReadyH.nil
  go_simp
  refine (rfrGet_any (cutH a2 p0 c2) L sz (c2 - p0) 0 w1.drew HPl.out (by omega) (by omega) (by rw [← HL.out, HM0.out, HP0.out]; exact hA2.out)).mono ?_
  rintro e w3 ⟨⟨a3, c3, rfl, ho3⟩, hb3⟩
  rw [HQ.out] at ho3 ⊢
  have S3 := (S2t.drew.bytes ho3 hb3).rot
  clear ho3 hb3
  refine hK.out _ _ (by exact HC.out _ S3.tail) (fun hHeld => ?_)
  clear hK K
  try simp only [Act.put, List.setIfInBounds_toArray, List.set_cons_zero, List.set_cons_succ]
  refine wpAnyH_take (i := 26) (v := ?v27) (ops_at rfl) (by kernel_rfl) (by kernel_rfl) (by kernel_rfl) (fun _ _ _ h => h) (Or.inl ⟨by rfl, ?hy27⟩) (by assumption) ?rest27
  case hy27 => intro w' hSw; (try dsimp only at hSw); go_simp; try with_reducible rfl
  try simp only [Act.put, List.setIfInBounds_toArray, List.set_cons_zero, List.set_cons_succ]
  refine wpAnyH_take (i := 27) (v := ?v28) (ops_at rfl) (by kernel_rfl) (by kernel_rfl) (by kernel_rfl) (fun _ _ _ h => h) (Or.inl ⟨by rfl, ?hy28⟩) (by assumption) ?rest28
  case hy28 => intro w' hSw; (try dsimp only at hSw); go_simp; try with_reducible rfl
  try simp only [Act.put, List.setIfInBounds_toArray, List.set_cons_zero, List.set_cons_succ]
  refine wpAnyH_take (i := 28) (v := ?v29) (ops_at rfl) (by kernel_rfl) (by kernel_rfl) (by kernel_rfl) (fun _ _ _ h => h) (Or.inl ⟨by rfl, ?hy29⟩) (by assumption) ?rest29
  case hy29 => intro w' hSw; (try dsimp only at hSw); go_simp; try with_reducible rfl
  try simp only [Act.put, List.setIfInBounds_toArray, List.set_cons_zero, List.set_cons_succ]
  refine wpAnyH_take (i := 29) (v := ?v30) (ops_at rfl) (by kernel_rfl) (by kernel_rfl) (by kernel_rfl) (fun _ _ _ h => h) (Or.inl ⟨by rfl, ?hy30⟩) (by assumption) ?rest30
  case hy30 => intro w' hSw; (try dsimp only at hSw); go_simp; try with_reducible rfl
  try simp only [Act.put, List.setIfInBounds_toArray, List.set_cons_zero, List.set_cons_succ]
  refine wpAnyH_take (i := 30) (v := ?v31) (ops_at rfl) (by kernel_rfl) (by kernel_rfl) (by kernel_rfl) (fun _ _ _ h => h) (Or.inl ⟨by rfl, ?hy31⟩) (by assumption) ?rest31
  case hy31 => intro w' hSw; (try dsimp only at hSw); go_simp; try with_reducible rfl
  try simp only [Act.put, List.setIfInBounds_toArray, List.set_cons_zero, List.set_cons_succ]
  refine wpAnyH_take (i := 31) (v := ?v32) (ops_at rfl) (by kernel_rfl) (by kernel_rfl) (by kernel_rfl) (fun _ _ _ h => h) (Or.inl ⟨by rfl, ?hy32⟩) (by assumption) ?rest32
  case hy32 => intro w' hSw; (try dsimp only at hSw); go_simp; try with_reducible rfl
  try simp only [Act.put, List.setIfInBounds_toArray, List.set_cons_zero, List.set_cons_succ]
  refine wpAnyH_take (i := 32) (v := ?v33) (ops_at rfl) (by kernel_rfl) (by kernel_rfl) (by kernel_rfl) (fun _ _ _ h => h) (Or.inl ⟨by rfl, ?hy33⟩) (by assumption) ?rest33
  case hy33 => intro w' hSw; (try dsimp only at hSw); go_simp; try with_reducible rfl
  try simp only [Act.put, List.setIfInBounds_toArray, List.set_cons_zero, List.set_cons_succ]
  refine wpAnyH_done (by kernel_rfl) ?_ _
  obtain ⟨p, nx, wh⟩ := q
  simp only [] at S3
  obtain ⟨m, hm⟩ : ∃ m, p.length = m := ⟨_, rfl⟩
  have HM := hid hm
  rw [hm] at S3
  have hs3 := S3.slA 0 rfl
  have hmb : m ≤ 140737488355328 := by
    have h1 : (fGet L (0 : Int)).1.length ≤ 4000 := fGet_le L 0
    rw [HQ.out] at h1
    have : p.length ≤ 4000 := h1
    omega
  clear hm
  by_cases hwh : wh = 1
  case neg =>
    have g1 : (wh != 1) = true := by simpa using hwh
    have HO2 : Hid (none = O) := by rw [Hid, ← HO.out]; unfold pic; rw [HQ.out]; simp only [if_neg hwh]
    clear hwh
    go_wp2
    go_ret2
    rw [← HO2.out]
    exact ⟨none, 0, rfl, Nat.le_refl _, Nat.zero_le _, fun _ => rfl, S3.tail.roNil⟩
  have g1 : (wh != 1) = false := by rw [hwh]; rfl
  rcases hg : getNum p 0 with _ | ⟨age, next⟩
  · have HG := hid hg
    have HO2 : Hid (none = O) := by rw [Hid, ← HO.out]; unfold pic; rw [HQ.out]; simp only [HG.out, if_pos hwh]; rfl
    clear hg hwh
    go_wp2_with fail
    rw [HM.out]
    refine (rgetNum_any a3 p m c3 0 w3 HM.out hmb (by exact hs3.2.2.2.2)).mono ?_
    rintro e w4 ⟨rfl, hb4⟩
    have S4 := S3.grow hb4
    rw [HG.out, res3]
    go_wp2
    go_ret2
    rw [← HO2.out]
    exact ⟨none, 0, rfl, Nat.le_refl _, Nat.zero_le _, fun _ => rfl, S4.tail.roNil⟩
  · have HG := hid hg
    have hgs := getNum_some hg
    have HO2 : Hid (some (p.drop next, age) = O) := by rw [Hid, ← HO.out]; unfold pic; rw [HQ.out]; simp only [HG.out, if_pos hwh]; rfl
    have hnm : next ≤ m := by rw [← HM.out]; omega
    have ic2 := cut_lI a3 m c3 next (next : Int) rfl hnm hs3.2.1
    clear hg hwh hgs
    go_wp2_with fail
    rw [HM.out]
    refine (rgetNum_any a3 p m c3 0 w3 HM.out hmb (by exact hs3.2.2.2.2)).mono ?_
    rintro e w4 ⟨rfl, hb4⟩
    have S4 := (S3.grow hb4).toRo next hnm
    rw [HG.out, res3]
    go_wp2
    go_ret2
    rw [← HO2.out]
    have hdl : (p.drop next).length = m - next := by rw [List.length_drop, HM.out]
    refine ⟨cutH a3 next c3, c3 - next, by show Ending.returned (.tuple #[.slice (cutH a3 next c3) (m - next) (c3 - next), .int .i64 (age : Int)]) = .returned (.tuple #[.slice (cutH a3 next c3) (p.drop next).length (c3 - next), .int .i64 (age : Int)]); rw [hdl], by show (p.drop next).length ≤ _; omega, by omega, ?_, S4⟩
    intro h
    unfold cutH at h
    split at h
    · omega
    · rw [Option.map_eq_none_iff] at h
      have := hs3.2.2.2.1 h
      omega
end

end Go.Proofs.Ytmfbbonppmhabaa
