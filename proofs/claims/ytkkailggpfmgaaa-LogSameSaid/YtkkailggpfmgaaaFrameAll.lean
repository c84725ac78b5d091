/- All the frames from a place on: frame.All, dunnageref03.All, Same. -/
import Derived.Test.YtkkailggpfmgaaaFrameRefGet
import Derived.Test.YtkkailggpfmgaaaStep
namespace Go.Proofs.Ytkkailggpfmgaaa
set_option linter.unusedVariables false
set_option linter.unusedSimpArgs false
open Go.RowKit

def fAllF : Nat → List UInt8 → Int → List (List UInt8) × Int
  | 0, _, at_ => ([], at_)
  | f + 1, l, at_ => if (fGet l at_).2.2 = 1 then ((fGet l at_).1 :: (fAllF f l (fGet l at_).2.1).1, (fAllF f l (fGet l at_).2.1).2) else ([], at_)
def fAll (l : List UInt8) (at_ : Int) : List (List UInt8) × Int := fAllF (l.length + 1) l at_
theorem fGet_one {l : List UInt8} {at_ : Int} (h : (fGet l at_).2.2 = 1) : 0 ≤ at_ ∧ at_ < (fGet l at_).2.1 ∧ (fGet l at_).2.1 ≤ l.length := by
  unfold fGet at h ⊢
  split at h
  · cases h
  rename_i h1
  rw [if_neg h1]
  split at h
  · cases h
  rename_i h2
  rw [if_neg h2]
  cases hg : getNum l at_ with
  | none => rw [hg] at h; cases h
  | some q =>
    rw [hg] at h
    obtain ⟨n, x⟩ := q
    have hs := getNum_some hg
    simp only [fNum] at h ⊢
    unfold fBody at h ⊢
    split at h
    · cases h
    rename_i h3
    rw [if_neg h3]
    split at h
    · rename_i h4
      rw [if_pos h4]
      exact ⟨by omega, by show at_ < ((x + n + 5 : Nat) : Int); omega, by show ((x + n + 5 : Nat) : Int) ≤ _; omega⟩
    · cases h
theorem fAllF_stop {l : List UInt8} {at_ : Int} (h : (fGet l at_).2.2 ≠ 1) : ∀ f, fAllF f l at_ = ([], at_)
  | 0 => rfl
  | f + 1 => by rw [fAllF, if_neg h]
/-- How far one has come. -/
structure AllAt (l : List UInt8) (at0 at_ : Int) (ps : List (List UInt8)) : Prop where
  some_ : ∃ f, fAll l at0 = (ps ++ (fAllF f l at_).1, (fAllF f l at_).2) ∧ ((l.length : Int) < f + at_ ∨ at_ < 0)
theorem AllAt.start (l : List UInt8) (at0 : Int) : AllAt l at0 at0 [] := ⟨l.length + 1, rfl, by omega⟩
theorem AllAt.step {l : List UInt8} {at0 at_ : Int} {ps : List (List UInt8)} (h : AllAt l at0 at_ ps) (h1 : (fGet l at_).2.2 = 1) : AllAt l at0 (fGet l at_).2.1 (ps ++ [(fGet l at_).1]) := by
  obtain ⟨f, e, hf⟩ := h.some_
  have g := fGet_one h1
  cases f with
  | zero => exfalso; omega
  | succ f =>
    rw [fAllF, if_pos h1] at e
    refine ⟨f, ?_, by omega⟩
    rw [e]
    simp
theorem AllAt.stop {l : List UInt8} {at0 at_ : Int} {ps : List (List UInt8)} (h : AllAt l at0 at_ ps) (h1 : (fGet l at_).2.2 ≠ 1) : fAll l at0 = (ps, at_) := by
  obtain ⟨f, e, _⟩ := h.some_
  rw [e, fAllF_stop h1, List.append_nil]
/-- What an element's header says. -/
structure BS.Hd (x : BS) : Prop where
  len : x.l.length = x.n
  le : x.n ≤ x.c
  big : x.c ≤ maxLen
  nil : x.a = none → x.c = 0
theorem Own.hd {w : World} {B : Nat} {a : Option Addr} {n c : Nat} {l : List UInt8} (h : Own w B (.slice a n c) l) : BS.Hd ⟨a, n, c, l⟩ := by
  obtain ⟨a', c', e, h1, h2, h3, _⟩ := OwnG.at eBok ((ownB _ _ _ _).2 h)
  cases e
  exact ⟨rfl, h1, h2, h3⟩
def AllPost (w : World) (r : List (List UInt8) × Int) (e : Ending) (w' : World) : Prop :=
  ∃ a c xs, e = .returned (.tuple #[.slice a r.1.length c, .int .i64 r.2]) ∧ xs.map BS.l = r.1 ∧ (∀ x ∈ xs, BS.Hd x) ∧ St w w' [rowsT eS bsRefs (.slice a r.1.length c) xs]

set_option maxRecDepth 10000 in
set_option maxHeartbeats 1600000 in
theorem frAll_any (a : Option Addr) (l : List UInt8) (n cap : Nat) (at_ : Int) (w : World) (hn : l.length = n) (hm : n ≤ 1000000) (hcap : n ≤ cap) (hA : At w a l) (hk0 : -9223372036854775808 ≤ at_) (hk1 : at_ ≤ 9223372036854775807) :
    Calls Try.prog 47 #[.slice a n cap, .int .i64 at_] w fun e w' => AllPost w (fAll l at_) e w' := by
  have HN := hid hn
  have HA := hid hA
  clear hn hA
  have S0 := (St.start w).rowsNil (e := eS) (refs := bsRefs)
  go_enter Try.func47, Try.ntmps47
  go_wp2_with fail
  go_loopw [1, 6] (fun i v wr => ∃ (at1 : Int) (xs : List BS) (a1 : Option Addr) (c1 : Nat), i = .int .i64 at1 ∧ v = .slice a1 xs.length c1 ∧ (xs = [] ∨ 0 ≤ at1 ∧ at1 ≤ n ∧ (xs.length : Int) ≤ at1) ∧ AllAt l at_ at1 (xs.map BS.l) ∧ (∀ x ∈ xs, BS.Hd x) ∧ St w wr [rowsT eS bsRefs (.slice a1 xs.length c1) xs]) (fun i _ _ => (n + 1 - intOf i).toNat)
  case atStart => exact ⟨at_, [], none, 0, rfl, rfl, .inl rfl, AllAt.start _ _, by simp, S0⟩
  case round =>
    obtain ⟨at1, xs, a1, c1, rfl, rfl, hxs, hall, hhd, Sk⟩ := hrel
    have HAll := hid hall
    have HHd := hid hhd
    have HXs := hid hxs
    obtain ⟨r, hr⟩ : ∃ r, fGet l at1 = r := ⟨_, rfl⟩
    have HR := hid hr
    clear hall hhd hxs hr
    by_cases hw : r.2.2 = 1
    case neg =>
      have HW := hid hw
      have g1 : (r.2.2 != 1) = true := by simpa using hw
      clear hw
      go_wp2_with fail
      refine (frGet_any a l n cap at1 wr HN.out (by omega) hcap (by exact HA.out.all Sk.fin)).mono ?_
      rintro e w1 ⟨⟨a2, c2, rfl, ho⟩, hb⟩
      rw [HR.out] at ho ⊢
      have S1 := Sk.grow hb
      clear ho hb
      go_wp2
      go_ret2
      have ef : fAll l at_ = (xs.map BS.l, at1) := HAll.out.stop (by rw [HR.out]; exact HW.out)
      rw [ef]
      exact ⟨a1, c1, xs, by simp, rfl, HHd.out, by simpa using S1⟩
    · have g1 : (r.2.2 != 1) = false := by simpa using hw
      have h1 := fGet_one (l := l) (at_ := at1) (by rw [HR.out]; exact hw)
      have HS := hid (HAll.out.step (by rw [HR.out]; exact hw))
      rw [HR.out] at h1 HS
      rw [HN.out] at h1
      have hlen : xs.length ≤ n := by
        rcases HXs.out with h | h
        · rw [h]; exact Nat.zero_le _
        · omega
      have hx2 : (xs.length : Int) + 1 ≤ r.2.1 := by
        rcases HXs.out with h | h
        · rw [h]; simp; omega
        · omega
      clear hw
      go_wp2_with fail
      refine (frGet_any a l n cap at1 wr HN.out (by omega) hcap (by exact HA.out.all Sk.fin)).mono ?_
      rintro e w1 ⟨⟨a2, c2, rfl, ho⟩, hb⟩
      rw [HR.out] at ho ⊢
      have S1 := Sk.bytes ho hb
      have HO := hid (Own.hd ho)
      clear ho hb
      obtain ⟨p, nx, wh⟩ := r
      obtain ⟨m, hm0⟩ : ∃ m, p.length = m := ⟨_, rfl⟩
      have HM := hid hm0
      rw [hm0] at S1 HO ⊢
      clear hm0
      go_wp2_with (at_builtin; refine wpList_app (by rfl) (.tmp 21) (.tmp 23) 28 28 28 rfl rfl _ _ rfl rfl (St.rowsApp eSok S1 ⟨a2, m, c2, p⟩ rfl w1.heap.size rfl _ (by rfl) (xs.length + 1) rfl (by show (xs.length + 1) * 24 ≤ _; omega) (by unfold maxLen; omega)) ?_; rintro v3 w3 ⟨⟨a3, c3, rfl⟩, S3⟩)
      go_roundw
      case rel => exact ⟨nx, xs ++ [⟨a2, m, c2, p⟩], a3, c3, rfl, by simp, .inr ⟨by have := h1.1; omega, h1.2.2, by simpa using hx2⟩, by simpa using HS.out, by
        intro x hx
        rcases List.mem_append.1 hx with hx | hx
        · exact HHd.out x hx
        · simp at hx; subst hx; exact HO.out, by simpa using S3⟩
      case measure => simp [intOf]; omega

set_option maxRecDepth 10000 in
set_option maxHeartbeats 1600000 in
theorem rfrAll_any (a : Option Addr) (l : List UInt8) (n cap : Nat) (at_ : Int) (w : World) (hn : l.length = n) (hm : n ≤ 1000000) (hcap : n ≤ cap) (hA : At w a l) (hk0 : -9223372036854775808 ≤ at_) (hk1 : at_ ≤ 9223372036854775807) :
    Calls Try.prog 62 #[.slice a n cap, .int .i64 at_] w fun e w' => AllPost w (fAll l at_) e w' := by
  have HN := hid hn
  have HA := hid hA
  clear hn hA
  have S0 := (St.start w).rowsNil (e := eS) (refs := bsRefs)
  go_enter Try.func62, Try.ntmps62
  go_wp2_with fail
  go_loopw [1, 6, 7] (fun i v q wr => ∃ (at1 z : Int) (xs : List BS) (a1 : Option Addr) (c1 : Nat), i = .int .i64 at1 ∧ v = .slice a1 xs.length c1 ∧ q = .int .i64 z ∧ (z = 1 → xs = [] ∨ 0 ≤ at1 ∧ at1 ≤ n ∧ (xs.length : Int) ≤ at1) ∧ (z = 1 → AllAt l at_ at1 (xs.map BS.l)) ∧ (z ≠ 1 → fAll l at_ = (xs.map BS.l, at1)) ∧ (∀ x ∈ xs, BS.Hd x) ∧ St w wr [rowsT eS bsRefs (.slice a1 xs.length c1) xs]) (fun i _ q _ => if intOf q = 1 then (n + 2 - intOf i).toNat + 1 else 0)
  case atStart => exact ⟨at_, 1, [], none, 0, rfl, rfl, rfl, fun _ => .inl rfl, fun _ => AllAt.start _ _, fun h => absurd rfl h, by simp, S0⟩
  case round =>
    obtain ⟨at1, z, xs, a1, c1, rfl, rfl, rfl, hxs, hall, hfin, hhd, Sk⟩ := hrel
    have HHd := hid hhd
    clear hhd
    by_cases hz : z = 1
    case neg =>
      have ef := hid (hfin hz)
      have g0 : (z == 1) = false := by simpa using hz
      clear hxs hall hfin hz
      go_wp2
      go_ret2
      rw [ef.out]
      exact ⟨a1, c1, xs, by simp, rfl, HHd.out, by simpa using Sk⟩
    subst hz
    have HAll := hid (hall rfl)
    have HXs := hid (hxs rfl)
    obtain ⟨r, hr⟩ : ∃ r, fGet l at1 = r := ⟨_, rfl⟩
    have HR := hid hr
    clear hall hxs hr hfin
    by_cases hw : r.2.2 = 1
    case neg =>
      have HW := hid hw
      have g1 : (r.2.2 == 1) = false := by simpa using hw
      clear hw
      go_wp2_with fail
      refine (rfrGet_any a l n cap at1 wr HN.out (by omega) hcap (by exact HA.out.all Sk.fin)).mono ?_
      rintro e w1 ⟨⟨a2, c2, rfl, ho⟩, hb⟩
      rw [HR.out] at ho ⊢
      have S1 := Sk.grow hb
      clear ho hb
      go_wp2
      go_roundw
      case rel => exact ⟨at1, r.2.2, xs, a1, c1, rfl, rfl, rfl, fun h => absurd h HW.out, fun h => absurd h HW.out, fun _ => HAll.out.stop (by rw [HR.out]; exact HW.out), HHd.out, S1⟩
      case measure =>
        have := HW.out
        simp [intOf, this]
    · have g1 : (r.2.2 == 1) = true := by simpa using hw
      have h1 := fGet_one (l := l) (at_ := at1) (by rw [HR.out]; exact hw)
      have HS := hid (HAll.out.step (by rw [HR.out]; exact hw))
      rw [HR.out] at h1 HS
      rw [HN.out] at h1
      have hlen : xs.length ≤ n := by
        rcases HXs.out with h | h
        · rw [h]; exact Nat.zero_le _
        · omega
      have hx2 : (xs.length : Int) + 1 ≤ r.2.1 := by
        rcases HXs.out with h | h
        · rw [h]; simp; omega
        · omega
      have HW := hid hw
      clear hw
      go_wp2_with fail
      refine (rfrGet_any a l n cap at1 wr HN.out (by omega) hcap (by exact HA.out.all Sk.fin)).mono ?_
      rintro e w1 ⟨⟨a2, c2, rfl, ho⟩, hb⟩
      rw [HR.out] at ho ⊢
      have S1 := Sk.bytes ho hb
      have HO := hid (Own.hd ho)
      clear ho hb
      obtain ⟨p, nx, wh⟩ := r
      obtain ⟨m, hm0⟩ : ∃ m, p.length = m := ⟨_, rfl⟩
      have HM := hid hm0
      rw [hm0] at S1 HO ⊢
      clear hm0
      go_wp2_with (at_builtin; refine wpList_app (by rfl) (.tmp 22) (.tmp 24) 28 28 28 rfl rfl _ _ rfl rfl (St.rowsApp eSok S1 ⟨a2, m, c2, p⟩ rfl w1.heap.size rfl _ (by rfl) (xs.length + 1) rfl (by show (xs.length + 1) * 24 ≤ _; omega) (by unfold maxLen; omega)) ?_; rintro v3 w3 ⟨⟨a3, c3, rfl⟩, S3⟩)
      go_roundw
      case rel => exact ⟨nx, wh, xs ++ [⟨a2, m, c2, p⟩], a3, c3, rfl, by simp, rfl, fun _ => .inr ⟨by have := h1.1; omega, h1.2.2, by simpa using hx2⟩, fun _ => by simpa using HS.out, fun h => absurd HW.out h, by
        intro x hx
        rcases List.mem_append.1 hx with hx | hx
        · exact HHd.out x hx
        · simp at hx; subst hx; exact HO.out, by simpa using S3⟩
      case measure =>
        have h2 : wh = 1 := HW.out
        subst h2
        simp [intOf]; omega

/-- Two lists of bytes, held against each other. -/
theorem AtG.cellsS {w : World} {a : Option Addr} {l : List BS} (h : AtG eS w a l) {k : Nat} (hk : k < l.length) : w.cell? (adr a k) = some (.slice l[k].a l[k].n l[k].c) := h.cellS hk
set_option maxRecDepth 10000 in
set_option maxHeartbeats 1600000 in
theorem same_any (a b : Option Addr) (xs ys : List BS) (n k ca cb : Nat) (w : World) (hn : xs.length = n) (hk : ys.length = k) (hnm : n ≤ 1000000) (hkm : k ≤ 1000000) (hA : AtG eS w a xs) (hB : AtG eS w b ys)
    (hx : ∀ x ∈ xs, BS.Hd x ∧ At w x.a x.l) (hy : ∀ x ∈ ys, BS.Hd x ∧ At w x.a x.l) :
    Calls Try.prog 20 #[.slice a n ca, .slice b k cb] w fun e w' => e = .returned (.bool (xs.map BS.l == ys.map BS.l)) ∧ Below w.heap.size w w' := by
  have HN := hid hn
  have HK := hid hk
  have HA := hid hA
  have HB := hid hB
  have HX := hid hx
  have HY := hid hy
  clear hn hk hA hB hx hy
  by_cases q0 : n = k
  case neg =>
    have e : (xs.map BS.l == ys.map BS.l) = false := by
      rw [beq_eq_false_iff_ne]
      intro h
      apply q0
      have := congrArg List.length h
      rw [List.length_map, List.length_map, HN.out, HK.out] at this
      exact this
    have g0 : ((n : Int) != (k : Int)) = true := by simp; omega
    rw [e]
    clear e
    go_enter Try.func20, Try.ntmps20
    go_wp2
    go_ret
    exact ⟨rfl, Below.refl _ _⟩
  subst q0
  go_enter Try.func20, Try.ntmps20
  go_wp2_with fail
  go_loopw [5] (fun i wr => ∃ j : Nat, j ≤ n ∧ i = .int .i64 j ∧ (xs.map BS.l).take j = (ys.map BS.l).take j ∧ Below w.heap.size w wr) (fun i _ => n - (intOf i).toNat)
  case atStart => exact ⟨0, Nat.zero_le _, rfl, rfl, Below.refl _ _⟩
  case round =>
    obtain ⟨j, hj, rfl, heq, hb⟩ := hrel
    have HE := hid heq
    have HBl := hid hb
    clear heq hb
    by_cases hlt : j < n
    · have hjx : j < xs.length := by rw [HN.out]; exact hlt
      have hjy : j < ys.length := by rw [HK.out]; exact hlt
      have i1 := fun wx => idxS a n ca (fun h => HA.out.ok (by rw [HN.out]; exact h)) j j rfl hlt wx
      have i2 := fun wx => idxS b n cb (fun h => HB.out.ok (by rw [HK.out]; exact h)) j j rfl hlt wx
      have HC : Hid (∀ w', Below w.heap.size w w' → w'.cell? (adr a j) = some (.slice xs[j].a xs[j].n xs[j].c) ∧ w'.cell? (adr b j) = some (.slice ys[j].a ys[j].n ys[j].c)) := fun w' h => ⟨(HA.out.all eSok h).cellS hjx, (HB.out.all eSok h).cellS hjy⟩
      have hx1 := HX.out _ (List.getElem_mem hjx)
      have hy1 := HY.out _ (List.getElem_mem hjy)
      have HX1 := hid (⟨hx1.1, hx1.2.all HBl.out⟩ : BS.Hd xs[j] ∧ At wr xs[j].a xs[j].l)
      have HY1 := hid (⟨hy1.1, hy1.2.all HBl.out⟩ : BS.Hd ys[j] ∧ At wr ys[j].a ys[j].l)
      have HS1 : Hid ((xs[j].l == ys[j].l) = true → (xs.map BS.l).take (j + 1) = (ys.map BS.l).take (j + 1)) := by
        intro h
        rw [beq_iff_eq] at h
        rw [List.take_succ_eq_append_getElem (by simpa using hjx), List.take_succ_eq_append_getElem (by simpa using hjy), HE.out, List.getElem_map, List.getElem_map, h]
      have HS0 : Hid ((xs[j].l == ys[j].l) = false → (xs.map BS.l == ys.map BS.l) = false) := by
        intro h
        rw [beq_eq_false_iff_ne] at h ⊢
        intro h2
        apply h
        have e1 : (xs.map BS.l)[j]? = (ys.map BS.l)[j]? := by rw [h2]
        rw [List.getElem?_map, List.getElem?_map, List.getElem?_eq_getElem hjx, List.getElem?_eq_getElem hjy] at e1
        simpa using e1
      clear hx1 hy1
      generalize xs[j] = x at *
      generalize ys[j] = y at *
      generalize adr a j = A at *
      generalize adr b j = D at *
      obtain ⟨t, ht⟩ : ∃ t, (x.l == y.l) = t := ⟨_, rfl⟩
      have HT := hid ht
      clear ht
      go_wp2_with fail
      refine wp_region_held_drew (S := (fun w' => w'.cell? A = some (.slice x.a x.n x.c) ∧ w'.cell? D = some (.slice y.a y.n y.c))) (by kernel_rfl) (by exact HC.out _ (below_drewN HBl.out 1)) (fun hHeld => ?_)
      change wpAnyH _ _ _ _ _ 10 (Array.replicate 10 false) _ _
      refine wpAnyH_take (i := 0) (v := ?v1) (ops_at rfl) (by kernel_rfl) (by kernel_rfl) (by kernel_rfl) (fun _ _ _ h => h) (Or.inl ⟨by rfl, ?hy1⟩) (by assumption) ?rest1
      case hy1 => intro w' hSw; (try dsimp only at hSw); go_simp; try with_reducible rfl
      try simp only [Act.put, List.setIfInBounds_toArray, List.set_cons_zero, List.set_cons_succ]
      refine wpAnyH_take (i := 1) (v := ?v2) (ops_at rfl) (by kernel_rfl) (by kernel_rfl) (by kernel_rfl) (fun _ _ _ h => h) (Or.inl ⟨by rfl, ?hy2⟩) (by assumption) ?rest2
      case hy2 => intro w' hSw; (try dsimp only at hSw); go_simp; try with_reducible rfl
      try simp only [Act.put, List.setIfInBounds_toArray, List.set_cons_zero, List.set_cons_succ]
      refine wpAnyH_take (i := 2) (v := ?v3) (ops_at rfl) (by kernel_rfl) (by kernel_rfl) (by kernel_rfl) (fun _ _ _ h => h) (Or.inl ⟨by rfl, ?hy3⟩) (by assumption) ?rest3
      case hy3 => intro w' hSw; (try dsimp only at hSw); go_simp; try with_reducible rfl
      try simp only [Act.put, List.setIfInBounds_toArray, List.set_cons_zero, List.set_cons_succ]
      refine wpAnyH_take (i := 3) (v := ?v4) (ops_at rfl) (by kernel_rfl) (by kernel_rfl) (by kernel_rfl) (fun _ _ _ h => h) (Or.inl ⟨by rfl, ?hy4⟩) (by assumption) ?rest4
      case hy4 => intro w' hSw; (try dsimp only at hSw); go_simp; try with_reducible rfl
      try simp only [Act.put, List.setIfInBounds_toArray, List.set_cons_zero, List.set_cons_succ]
      refine wpAnyH_take (i := 4) (v := ?v5) (ops_at rfl) (by kernel_rfl) (by kernel_rfl) (by kernel_rfl) (fun _ _ _ h => h) (Or.inl ⟨by rfl, ?hy5⟩) (by assumption) ?rest5
      case hy5 => intro w' hSw; (try dsimp only at hSw); go_simp; try with_reducible rfl
      try simp only [Act.put, List.setIfInBounds_toArray, List.set_cons_zero, List.set_cons_succ]
      refine wpAnyH_take (i := 5) (v := ?v6) (ops_at rfl) (by kernel_rfl) (by kernel_rfl) (by kernel_rfl) (fun _ _ _ h => h) (Or.inl ⟨by rfl, ?hy6⟩) (by assumption) ?rest6
      case hy6 => intro w' hSw; (try dsimp only at hSw); go_simp; try with_reducible rfl
      try simp only [Act.put, List.setIfInBounds_toArray, List.set_cons_zero, List.set_cons_succ]
      refine wpAnyH_take (i := 6) (v := ?v7) (ops_at rfl) (by kernel_rfl) (by kernel_rfl) (by kernel_rfl) (fun _ _ _ h => h) (Or.inl ⟨by rfl, ?hy7⟩) (by assumption) ?rest7
      case hy7 => intro w' hSw; (try dsimp only at hSw); go_simp; try with_reducible rfl
      try simp only [Act.put, List.setIfInBounds_toArray, List.set_cons_zero, List.set_cons_succ]
      refine wpAnyH_take (i := 7) (v := ?v8) (ops_at rfl) (by kernel_rfl) (by kernel_rfl) (by kernel_rfl) (fun _ _ _ h => h) (Or.inl ⟨by rfl, ?hy8⟩) (by assumption) ?rest8
      case hy8 => intro w' hSw; (try dsimp only at hSw); go_simp; try with_reducible rfl
      try simp only [Act.put, List.setIfInBounds_toArray, List.set_cons_zero, List.set_cons_succ]
      refine wpAnyH_ready (rs := [8]) (by kernel_rfl) (by simp) ?_
      refine AllReadyH.cons (ops_at rfl) (fun K hK => ?_) AllReadyH.nil
      go_simp
      refine (bytes_any x.a y.a x.l y.l x.n y.n x.c y.c _ HX1.out.1.len HY1.out.1.len (Nat.le_trans HX1.out.1.le HX1.out.1.big) (Nat.le_trans HY1.out.1.le HY1.out.1.big) (by exact HX1.out.2) (by exact HY1.out.2)).mono ?_
      rintro e w2 ⟨rfl, n2, rfl⟩
      rw [HT.out]
      have HB2 : Hid (Below w.heap.size w (wr.drew.drewN n2)) := below_drewN (below_drewN HBl.out 1) n2
      have HB3 : Hid (Below w.heap.size w (wr.drewN (1 + n2))) := below_drewN HBl.out (1 + n2)
      refine hK.out _ _ (by exact HC.out _ HB2.out) (fun hHeld => ?_)
      clear hK K
      try simp only [Act.put, List.setIfInBounds_toArray, List.set_cons_zero, List.set_cons_succ]
      refine wpAnyH_take (i := 9) (v := ?v10) (ops_at rfl) (by kernel_rfl) (by kernel_rfl) (by kernel_rfl) (fun _ _ _ h => h) (Or.inl ⟨by rfl, ?hy10⟩) (by assumption) ?rest10
      case hy10 => intro w' hSw; (try dsimp only at hSw); go_simp; try with_reducible rfl
      try simp only [Act.put, List.setIfInBounds_toArray, List.set_cons_zero, List.set_cons_succ]
      refine wpAnyH_done (by kernel_rfl) ?_ _
      cases t with
      | true =>
        go_wp2
        go_roundw
        case rel => exact ⟨j + 1, by omega, by go_num, HS1.out HT.out, HB3.out⟩
        case measure => simp [intOf]; omega
      | false =>
        go_wp2
        go_ret
        rw [HS0.out HT.out]
        exact ⟨rfl, HB2.out⟩
    · have ee : Hid ((xs.map BS.l == ys.map BS.l) = true) := by
        rw [Hid, beq_iff_eq]
        have := HE.out
        rwa [List.take_of_length_le (by rw [List.length_map, HN.out]; omega), List.take_of_length_le (by rw [List.length_map, HK.out]; omega)] at this
      go_wp2
      go_ret
      rw [ee.out]
      exact ⟨rfl, HBl.out⟩

end Go.Proofs.Ytkkailggpfmgaaa
