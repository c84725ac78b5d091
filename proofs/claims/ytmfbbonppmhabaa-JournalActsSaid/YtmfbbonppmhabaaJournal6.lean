/- journal.Open. -/
import Derived.Test.YtmfbbonppmhabaaJournal5
import Derived.Test.YtmfbbonppmhabaaLogRel
import Derived.Deep.CutRange
namespace Go.Proofs.Ytmfbbonppmhabaa
set_option linter.unusedVariables false
set_option linter.unusedSimpArgs false
open Go.RowKit Go.Shelf
attribute [local go_sem] Oper.semAt_some
theorem results_tmp4 {fn : Func} {t u v s : Tmp} (h : fn.results = #[.tmp t, .tmp u, .tmp v, .tmp s]) (tmps : Array Value) (P : Program) (w : World) :
    (results fn tmps).run P w = .ok (.tuple #[tmps.getD t undef, tmps.getD u undef, tmps.getD v undef, tmps.getD s undef]) w := by
  simp [results, h]
theorem St.laid {w0 w : World} {l : List Thing} (S : St w0 w l) (T : TypeId) (cs : Array Value) (g : Nat) (hg : w.heap.size = g) : St w0 (w.alloc (.cells cs T)) (cellsT g T cs.toList :: l) := (hg ▸ S.newCells T cs : St w0 (w.alloc (.cells cs T)) (l ++ [cellsT g T cs.toList])).rot
theorem laid_size (w : World) (o : Obj) : (w.alloc o).heap.size = w.heap.size + 1 := by show (Array.push _ _).size = _; simp
section
variable {w0 w : World} {tl : List Thing} {pd : Value} {d : DSt} {q sz : Nat}
set_option maxRecDepth 10000 in
theorem jlOpen_no (S : St w0 w (diskT pd d :: tl)) (h : d.lasts.length < 64) :
    Calls Try.prog 9 #[pd] w fun e w' => e = .returned (.tuple #[.pointer none, .slice none 0 0, .slice none 0 0, .int .i64 1]) ∧ w = w' := by
  obtain ⟨N, hN⟩ : ∃ N, d.lasts.length = N := ⟨_, rfl⟩
  rw [hN] at h
  have HN := hid (show (d.lasts.length : Int) = (N : Int) by rw [hN])
  have g0 : decide ((N : Int) < 64) = true := decide_eq_true (by omega)
  have g0n : decide (N < 64) = true := decide_eq_true h
  clear hN h
  go_enter Try.func9, Try.ntmps9
  go_wp2_with fail
  refine (hsize S 0 rfl (N : Int) HN.out).mono ?_
  rintro e w1 ⟨rfl, rfl⟩
  go_wp2
  (try simp only [Exit.inBlock, Exit.then]); refine bodyPost_ret (results_tmp4 rfl _ _ _) rfl ?_
  exact ⟨rfl, rfl⟩
set_option maxRecDepth 10000 in
theorem folMk (S : St w0 w tl) (a : Option Addr) (n c : Nat) (f : Int) :
    Calls Try.prog 33 #[.slice a n c, .int .i64 f] w fun e w' => ∃ gr gf, e = .returned (.func (.func 59) #[] #[(.pointer (some ⟨gr, 0, none⟩)), (.pointer (some ⟨gf, 0, none⟩))]) ∧ St w0 w' (cellsT gf 3 [.int .i64 f] :: cellsT gr 22 [.slice a n c] :: tl) := by
  have S1 : St w0 _ (cellsT w.heap.size 22 [.slice a n c] :: tl) := (S.newCells 22 #[.slice a n c]).rot
  have S2 : St w0 ((w.alloc (.cells #[.slice a n c] 22)).alloc (.cells #[.int .i64 f] 3)) (cellsT (w.heap.size + 1) 3 [.int .i64 f] :: cellsT w.heap.size 22 [.slice a n c] :: tl) := by
    have h := (S1.newCells 3 #[.int .i64 f]).rot
    simpa using h
  have hmf : ∀ (fn : Fn) (first cap : Array Value) (w : World), (Instr.makeFunc fn first cap).run Try.prog w = .ok (.func fn first cap) w := fun _ _ _ _ => rfl
  go_enter Try.func33, Try.ntmps33
  go_wp2
  go_ret
  exact ⟨_, _, rfl, S2⟩
theorem pic_le (l : List UInt8) : picA (pic l) ≤ 9007199254740991 := by
  unfold pic
  split
  · cases h : getNum (fGet l 0).1 0 with
    | none => simp [picA]
    | some p => exact (getNum_some (n := p.1) (x := p.2) h).1
  · simp [picA]
theorem shows_le (d : DSt) (fr sz : Nat) : picA (d.shows fr sz) ≤ 9007199254740991 := by
  unfold DSt.shows
  have h1 := pic_le (piece d.bytes (fr + 0 * sz) sz)
  have h2 := pic_le (piece d.bytes (fr + 1 * sz) sz)
  generalize pic (piece d.bytes (fr + 0 * sz) sz) = x at *
  generalize pic (piece d.bytes (fr + 1 * sz) sz) = y at *
  cases x with
  | none => cases y with
    | none => exact h1
    | some q => exact h2
  | some p => cases y with
    | none => exact h1
    | some q =>
      show picA (if p.2 < q.2 then some q else some p) ≤ _
      split
      · exact h2
      · exact h1
/-- What opening leaves of a disk: the log's records, the disk behind the log's opening. -/
def jRecs (d : DSt) (q sz : Nat) : List (List UInt8) := (fAll (piece d.bytes (2 * q) sz) 0).1
def jDisk1 (d : DSt) (q sz : Nat) : DSt := d.nought (2 * q) sz ((jRecs d q sz).flatMap frameB).length
def jPic (d : DSt) (q sz : Nat) : Option (List UInt8 × Nat) := (jDisk1 d q sz).shows 0 q
def jOps (d : DSt) (q sz : Nat) : List (List UInt8) := followL (jRecs d q sz) (picA (jPic d q sz))
def jElder (d : DSt) (q sz : Nat) : Bool := elderL (jRecs d q sz) (picA (jPic d q sz))
def jDisk (d : DSt) (q sz : Nat) : DSt := if jElder d q sz = true then (jDisk1 d q sz).nought (2 * q) sz 0 else jDisk1 d q sz
def jUsed (d : DSt) (q sz : Nat) : Nat := if jElder d q sz = true then 0 else ((jRecs d q sz).flatMap frameB).length
def jAge (o : Option (List UInt8 × Nat)) : Int := match o with | none => -1 | some p => (p.2 : Int)
def JOpenPost (w0 : World) (pd : Value) (d : DSt) (q sz : Nat) (tl : List Thing) (e : Ending) (w' : World) : Prop :=
  ∃ gj gl gs a c b m k xs, e = .returned (.tuple #[(.pointer (some ⟨gj, 0, none⟩)), .slice a (picL (jPic d q sz)).length c, .slice b m k, .int .i64 0]) ∧ (picL (jPic d q sz)).length ≤ c ∧ c ≤ maxLen ∧ (a = none → c = 0) ∧ xs.map BS.l = jOps d q sz ∧ xs.length = m ∧ (∀ x ∈ xs, BS.Hd x) ∧
    St w0 w' (cellsT gj 70 (jC pd (.pointer (some ⟨gs, 0, none⟩)) (.pointer (some ⟨gl, 0, none⟩)) ((picA (jPic d q sz) + (jOps d q sz).length : Nat) : Int) (jAge (jPic d q sz))) :: cellsT gl 99 (logC pd (2 * q) sz (jUsed d q sz)) :: diskT pd (jDisk d q sz) :: cellsT gs 97 (slotC pd 0 q) :: roT a (picL (jPic d q sz)) :: rowsT eS bsRefs (.slice b m k) xs :: tl)
set_option maxRecDepth 100000 in
set_option maxHeartbeats 6400000 in
theorem jlOpen (S : St w0 w (diskT pd d :: tl)) (N : Nat) (hN : d.lasts.length = N) (h64 : 64 ≤ N) (hN2 : N ≤ 65536) (hq : q = N / 4) (hz : sz = N - 2 * q) (hw : d.waits.length ≤ 900) (hs : d.syncs < 1000000) :
    Calls Try.prog 9 #[pd] w fun e w' => JOpenPost w0 pd d q sz tl e w' := by
  obtain ⟨gd, rfl⟩ : ∃ gd, pd = (.pointer (some ⟨gd, 0, none⟩)) := by
    obtain ⟨F, gd, gl, vw, ws, e, _⟩ := S.head 0 rfl
    exact ⟨gd, e⟩
  have hd := S.disk 0 rfl
  have HN := hid (show (d.lasts.length : Int) = (N : Int) by rw [hN])
  have HNn := hid hN
  have g0 : decide ((N : Int) < 64) = false := decide_eq_false (by omega)
  have g0n : decide (N < 64) = false := decide_eq_false (by omega)
  have HQI : Hid ((N : Int) / 4 = (q : Int)) := by rw [Hid]; omega
  have HB : Hid (16 ≤ q ∧ sz + 2 * q = N ∧ 32 ≤ sz) := by rw [Hid]; omega
  have hq16 : q ≤ 16384 := by omega
  clear hN hq hz
  refine callsIn_wide.1 (callsIn_of_wp_marks (F := Fence.wide) (n := 0) Try.func9 rfl trivial (wpIn_wide.2 ?_) rfl)
  simp only [Try.ntmps9, List.size_toArray, List.length_cons, List.length_nil, Nat.reduceAdd, Nat.reduceSub, Array.replicate_succ, Array.replicate_zero, List.push_toArray, List.append_toArray, List.nil_append, List.cons_append]
  go_wp2_with fail
  refine (hsize S 0 rfl (N : Int) HN.out).mono ?_
  rintro e w1 ⟨rfl, rfl⟩
  go_wp2_with fail
  refine (hsize S 0 rfl (N : Int) HN.out).mono ?_
  rintro e w1 ⟨rfl, rfl⟩
  go_wp2_with fail
  rw [HQI.out]
  have hfit := hd.1
  refine (slOpen_yes S 0 q (by have := HB.out; omega) (by rw [HNn.out]; have := HB.out; omega)).mono ?_
  rintro e w1 ⟨gs, rfl, S1⟩
  go_wp2_with fail
  refine (hsize S1 1 rfl (N : Int) HN.out).mono ?_
  rintro e wx ⟨rfl, rfl⟩
  have HM2 : Hid ((N : Int) - 2 * (q : Int) = (sz : Int)) := by rw [Hid]; have := HB.out; omega
  have HM1 : Hid (2 * (q : Int) = ((2 * q : Nat) : Int)) := by rw [Hid]; omega
  go_wp2_with fail
  rw [HM2.out, HM1.out]
  have S2 : St w0 w1 (diskT (.pointer (some ⟨gd, 0, none⟩)) d :: cellsT gs 97 (slotC (.pointer (some ⟨gd, 0, none⟩)) 0 q) :: tl) := S1.swap
  refine (logOpen_yes S2 (2 * q) sz (by have := HB.out; omega) (by rw [HNn.out]; have := HB.out; omega) (by omega) (by omega)).mono ?_
  rintro e w2 ⟨gl, aR, cR, recs, rfl, hxs, hhd, S3⟩
  have HXs : Hid (recs.map BS.l = jRecs d q sz) := hxs
  have HHd := hid hhd
  have HSm : Hid (∀ x ∈ recs, x.l.length ≤ 4000) := fun x hx => by
    have h1 : x.l ∈ jRecs d q sz := by rw [← HXs.out]; exact List.mem_map.2 ⟨x, hx, rfl⟩
    exact ((fAll_is (piece d.bytes (2 * q) sz)).1 _ h1).2
  obtain ⟨n, hn⟩ : ∃ n, (fAll (piece d.bytes (2 * q) sz) 0).1.length = n := ⟨_, rfl⟩
  have hfl : (fAll (piece d.bytes (2 * q) sz) 0).1.length ≤ sz := by
    have h1 := (fAll_is (piece d.bytes (2 * q) sz))
    have h2 := flat_ge _ h1.1
    have h3 := piece_len (l := d.bytes) (fr := 2 * q) (sz := sz) (by rw [hd.2.2.2, HNn.out]; have := HB.out; omega)
    omega
  rw [hn] at S3 hfl ⊢
  have S4 : St w0 w2 (cellsT gl 99 (logC (.pointer (some ⟨gd, 0, none⟩)) (2 * q) sz ((jRecs d q sz).flatMap frameB).length) :: diskT (.pointer (some ⟨gd, 0, none⟩)) (jDisk1 d q sz) :: rowsT eS bsRefs (.slice aR n cR) recs :: cellsT gs 97 (slotC (.pointer (some ⟨gd, 0, none⟩)) 0 q) :: tl) := S3
  clear hxs hhd S3 S2 S1
  have HNr := hid hn
  clear hn
  go_wp2_with fail
  obtain ⟨gj, hgj⟩ : ∃ gj, w2.heap.size = gj := ⟨_, rfl⟩
  obtain ⟨w3, hw3⟩ : ∃ w3, (w2.alloc (.cells #[(.pointer (some ⟨gd, 0, none⟩)), (.pointer (some ⟨gs, 0, none⟩)), (.pointer (some ⟨gl, 0, none⟩)), .int .i64 0, .int .i64 (-1)] 70)).alloc (.cells #[.pointer (some ⟨gj, 0, none⟩)] 26) = w3 := ⟨_, rfl⟩
  have S5 : St w0 w3 (cellsT (gj + 1) 26 [(.pointer (some ⟨gj, 0, none⟩))] :: cellsT gj 70 (jC (.pointer (some ⟨gd, 0, none⟩)) (.pointer (some ⟨gs, 0, none⟩)) (.pointer (some ⟨gl, 0, none⟩)) 0 (-1)) :: cellsT gl 99 (logC (.pointer (some ⟨gd, 0, none⟩)) (2 * q) sz ((jRecs d q sz).flatMap frameB).length) :: diskT (.pointer (some ⟨gd, 0, none⟩)) (jDisk1 d q sz) :: rowsT eS bsRefs (.slice aR n cR) recs :: cellsT gs 97 (slotC (.pointer (some ⟨gd, 0, none⟩)) 0 q) :: tl) := by
    have h1 := S4.laid 70 #[(.pointer (some ⟨gd, 0, none⟩)), (.pointer (some ⟨gs, 0, none⟩)), (.pointer (some ⟨gl, 0, none⟩)), .int .i64 0, .int .i64 (-1)] w2.heap.size rfl
    have h2 := h1.laid 26 #[.pointer (some ⟨gj, 0, none⟩)] (w2.heap.size + 1) (laid_size _ _)
    rw [hw3, hgj] at h2
    exact h2
  rw [hgj, hw3]
  clear hgj hw3 S4
  have hnl := nought_len (fr := 2 * q) (sz := sz) (u := ((jRecs d q sz).flatMap frameB).length) hfit (by rw [HNn.out]; have := HB.out; omega) (by
    have h1 : ((jRecs d q sz).flatMap frameB).length ≤ (piece d.bytes (2 * q) sz).length := (fAll_is (piece d.bytes (2 * q) sz)).2.2.1
    have h3 := piece_len (l := d.bytes) (fr := 2 * q) (sz := sz) (by rw [hd.2.2.2, HNn.out]; have := HB.out; omega)
    rw [h3] at h1; exact h1)
  rw [show d.nought (2 * q) sz ((jRecs d q sz).flatMap frameB).length = jDisk1 d q sz from (by rw [jDisk1])] at hnl
  have HL1 : Hid ((jDisk1 d q sz).lasts.length = N) := by rw [Hid, ← HNn.out]; exact hnl.1
  have HW1 : Hid ((jDisk1 d q sz).waits = []) := hnl.2.1
  have HY1 : Hid ((jDisk1 d q sz).syncs = d.syncs + 1) := hnl.2.2.1
  clear hnl
  have S6 : St w0 w3 (cellsT gs 97 (slotC (.pointer (some ⟨gd, 0, none⟩)) 0 q) :: diskT (.pointer (some ⟨gd, 0, none⟩)) (jDisk1 d q sz) :: cellsT (gj + 1) 26 [(.pointer (some ⟨gj, 0, none⟩))] :: cellsT gj 70 (jC (.pointer (some ⟨gd, 0, none⟩)) (.pointer (some ⟨gs, 0, none⟩)) (.pointer (some ⟨gl, 0, none⟩)) 0 (-1)) :: cellsT gl 99 (logC (.pointer (some ⟨gd, 0, none⟩)) (2 * q) sz ((jRecs d q sz).flatMap frameB).length) :: rowsT eS bsRefs (.slice aR n cR) recs :: tl) := (S5.front 3 rfl).front 5 rfl
  clear S5
  refine (slLoad_any S6 (by rw [HL1.out]; have := HB.out; omega) (by rw [HW1.out]; simp)).mono ?_
  rintro e w4 ⟨aP, cP, rfl, hp1, hp2, hp3, S7⟩
  clear S6
  have HO : Hid (jPic d q sz = (jDisk1 d q sz).shows 0 q) := by rw [Hid, jPic]
  generalize hD1 : jDisk1 d q sz = D1 at *
  have HD1 := hid hD1
  clear hD1
  rw [← HO.out] at S7 hp1 ⊢
  obtain ⟨o, ho⟩ : ∃ o, jPic d q sz = o := ⟨_, rfl⟩
  rw [ho] at S7 hp1 ⊢
  have HPic := hid ho
  have HP := hid (And.intro hp1 (And.intro hp2 hp3))
  clear ho hp1 hp2 hp3
  obtain ⟨oi, hoi⟩ : ∃ oi, o.isSome = oi := ⟨_, rfl⟩
  rw [hoi]
  have HOi := hid hoi
  clear hoi
  go_upto_if 54 with fail
  go_cut [] from 18 to 58 (fun wc => St w0 wc (cellsT gj 70 (jC (.pointer (some ⟨gd, 0, none⟩)) (.pointer (some ⟨gs, 0, none⟩)) (.pointer (some ⟨gl, 0, none⟩)) 0 (jAge o)) :: cellsT (gj + 1) 26 [(.pointer (some ⟨gj, 0, none⟩))] :: roT aP (picL o) :: cellsT gs 97 (slotC (.pointer (some ⟨gd, 0, none⟩)) 0 q) :: diskT (.pointer (some ⟨gd, 0, none⟩)) D1 :: cellsT gl 99 (logC (.pointer (some ⟨gd, 0, none⟩)) (2 * q) sz ((jRecs d q sz).flatMap frameB).length) :: rowsT eS bsRefs (.slice aR n cR) recs :: tl))
  case first =>
    have S8 := (S7.front 3 rfl).front 4 rfl
    cases oi
    · have E : Hid (jAge o = -1) := by
        have := HOi.out
        cases o with
        | none => rfl
        | some p => cases this
      go_wp2_with fail
      go_meet
      rw [E.out]; exact S8
    · have E : Hid (jAge o = (picA o : Int)) := by
        have := HOi.out
        cases o with
        | none => cases this
        | some p => rfl
      have c0 := S8.cell 1 rfl 0 rfl
      have c4 := S8.cell 0 rfl 4 rfl
      have f4 := S8.frozen 0 rfl 4
      have S9 := S8.setCell 0 rfl 4 (.int .i64 (picA o : Int))
      go_wp2_with fail
      go_meet
      rw [E.out]; exact S9
  case rest =>
  have S8 := hcut
  clear hcut S7
  have c0 := S8.cell 1 rfl 0 rfl
  have c3 := S8.cell 0 rfl 3 rfl
  have f3 := S8.frozen 0 rfl 3
  have S9 := S8.setCell 0 rfl 3 (.int .i64 (picA o : Int))
  go_wp2_with fail
  obtain ⟨go, hgo⟩ : ∃ go, wc.heap.size = go := ⟨_, rfl⟩
  obtain ⟨w5, hw5⟩ : ∃ w5, (wc.setCell ⟨gj, 3, none⟩ (.int .i64 (picA o : Int))).alloc (.cells #[.slice none 0 0] 22) = w5 := ⟨_, rfl⟩
  have S10 : St w0 w5 (cellsT go 22 [.slice none 0 0] :: cellsT gj 70 (jC (.pointer (some ⟨gd, 0, none⟩)) (.pointer (some ⟨gs, 0, none⟩)) (.pointer (some ⟨gl, 0, none⟩)) (picA o : Int) (jAge o)) :: cellsT (gj + 1) 26 [(.pointer (some ⟨gj, 0, none⟩))] :: roT aP (picL o) :: cellsT gs 97 (slotC (.pointer (some ⟨gd, 0, none⟩)) 0 q) :: diskT (.pointer (some ⟨gd, 0, none⟩)) D1 :: cellsT gl 99 (logC (.pointer (some ⟨gd, 0, none⟩)) (2 * q) sz ((jRecs d q sz).flatMap frameB).length) :: rowsT eS bsRefs (.slice aR n cR) recs :: tl) := by
    have h := S9.laid 22 #[.slice none 0 0] go (by rw [← hgo]; show (wc.heap.modify _ _).size = _; rw [Array.size_modify])
    rw [hw5] at h
    exact h
  rw [hw5]
  simp only [hgo]
  clear hw5 hgo c0 c3 f3 S9 S8
  refine (folMk S10 aR n cR (picA o : Int)).mono ?_
  rintro e w6 ⟨gr, gf, rfl, S11⟩
  clear S10
  go_wp2_with fail
  refine wp_rangeFunc2 (gf := 59) (lb := #[(.pointer (some ⟨gr, 0, none⟩)), (.pointer (some ⟨gf, 0, none⟩))]) rfl (enters_of Try.func59 (by kernel_rfl) rfl) ?_
  intro rd bz ex hround
  have HRound := hid hround
  clear hround
  obtain ⟨D, hD⟩ : ∃ D, w6.heap.size = D := ⟨_, rfl⟩
  obtain ⟨w7, hw7⟩ : ∃ w7, (w6.alloc (.deferred (some []))).alloc rd = w7 := ⟨_, rfl⟩
  obtain ⟨REST, hREST⟩ : ∃ REST, roT aP (picL o) :: cellsT gs 97 (slotC (.pointer (some ⟨gd, 0, none⟩)) 0 q) :: diskT (.pointer (some ⟨gd, 0, none⟩)) D1 :: cellsT gl 99 (logC (.pointer (some ⟨gd, 0, none⟩)) (2 * q) sz ((jRecs d q sz).flatMap frameB).length) :: tl = REST := ⟨_, rfl⟩
  obtain ⟨RR, hRR⟩ : ∃ RR : List (List UInt8) → List Thing → Prop, RR = fun O tk => ∃ v xs, tk = objT (D + 1) rd :: objT D (.deferred (some [])) :: cellsT go 22 [v] :: rowsT eS bsRefs v xs :: cellsT gj 70 (jC (.pointer (some ⟨gd, 0, none⟩)) (.pointer (some ⟨gs, 0, none⟩)) (.pointer (some ⟨gl, 0, none⟩)) ((picA o + O.length : Nat) : Int) (jAge o)) :: cellsT (gj + 1) 26 [(.pointer (some ⟨gj, 0, none⟩))] :: REST ∧ xs.map BS.l = O ∧ ∀ x ∈ xs, BS.Hd x := ⟨_, rfl⟩
  have S12 : ∃ tk, RR [] tk ∧ St w0 w7 (cellsT gf 3 [.int .i64 ((picA o : Nat) : Int)] :: cellsT gr 22 [.slice aR n cR] :: rowsT eS bsRefs (.slice aR n cR) recs :: tk) := by
    refine ⟨_, by rw [hRR]; exact ⟨.slice none 0 0, [], rfl, rfl, fun x hx => by cases hx⟩, ?_⟩
    have h1 : St w0 (w6.alloc (.deferred (some []))) (objT D (.deferred (some [])) :: _) := hD ▸ (S11.newObj (.deferred (some []))).rot
    have h2 := (h1.newObj rd).rot
    rw [hw7, laid_size, hD] at h2
    have h3 := h2.rowsNil (e := eS) (refs := bsRefs)
    rw [← hREST]
    exact (((((h3.front 5 rfl).front 3 rfl).front 3 rfl).front 12 rfl).front 6 rfl).front 6 rfl
  obtain ⟨tk0, hR0, S12⟩ := S12
  have HRR := hid hRR
  have hn1 : n ≤ 65536 := by have := HB.out; omega
  have hpa : picA o ≤ 9007199254740991 := by rw [← HPic.out, HO.out]; exact shows_le _ _ _
  rw [hD] at HRound ⊢
  rw [hw7]
  have HREST := hid hREST
  clear hRR hREST hw7 hD S11
  refine (fol_in (D + 1) gr gf aR n cR recs (picA o) RR hpa (by omega) HHd.out HSm.out ?_ w7 tk0 hR0 S12).mono ?_
  · intro O tk W p m k op hR SW hO hm hkm hkx hnil h1 h4 hA
    rw [HRR.out] at hR
    obtain ⟨v, xs, rfl, hxs, hhd2⟩ := hR
    have HXS := hid hxs
    have HHd2 := hid hhd2
    have HM := hid hm
    have HA := hid hA
    clear hR0 S12 hxs hhd2 hm hA
    refine HRound.out W #[.slice p m k] (fun W' => ∃ tl', RR (O ++ [op]) tl' ∧ St w0 W' (cellsT gf 3 [.int .i64 ((picA o + O.length : Nat) : Int)] :: cellsT gr 22 [.slice aR n cR] :: rowsT eS bsRefs (.slice aR n cR) recs :: tl')) rfl (SW.obj 3 rfl) ?_
    clear HRound
    have SB := SW.putObj 3 rfl bz
    gi_wp2
    refine ⟨trivial, ?_⟩
    change Code.wpIn _ _ _ _ _ _ (putO W (D + 1) bz)
    generalize putO W (D + 1) bz = W1 at *
    clear SW
    have S1 : St w0 W1 (cellsT gf 3 [.int .i64 ((picA o + O.length : Nat) : Int)] :: cellsT gr 22 [.slice aR n cR] :: rowsT eS bsRefs (.slice aR n cR) recs :: objT (D + 1) bz :: objT D (.deferred (some [])) :: cellsT go 22 [v] :: rowsT eS bsRefs v xs :: cellsT gj 70 (jC (.pointer (some ⟨gd, 0, none⟩)) (.pointer (some ⟨gs, 0, none⟩)) (.pointer (some ⟨gl, 0, none⟩)) ((picA o + O.length : Nat) : Int) (jAge o)) :: cellsT (gj + 1) 26 [(.pointer (some ⟨gj, 0, none⟩))] :: REST) := SB
    clear SB
    have hx1 : xs.length ≤ 65536 := by
      have := congrArg List.length HXS.out
      rw [List.length_map] at this
      omega
    have hal : picA o + O.length ≤ 9007199254840991 := by omega
    have c2 : k ≤ 9223372036854775807 := by unfold maxLen at hkx; exact hkx
    have hmb : m ≤ 140737488355328 := by omega
    gi_wp2
    refine wpR_region_heldZ (S := (fun w' => w'.cell? ⟨go, 0, none⟩ = some v)) 4 (by kernel_rfl) (by kernel_rfl) (by rintro ⟨_, _, h⟩; exact nomatch (And.left h)) (by exact S1.drew.cell 5 rfl 0 rfl) (fun hHeld => ?_)
    change wpAnyZ _ _ _ _ _ 4 6 (Array.replicate 6 false) _ _
    refine wpAnyZ_take (i := 0) (v := ?v1) (ops_at rfl) (by kernel_rfl) (by kernel_rfl) (by kernel_rfl) (by kernel_rfl) [4] (by kernel_rfl) (by rfl) (fun _ _ _ h => h) (Or.inl ⟨by rfl, ?hy1⟩) (by assumption) ?rest1
    case hy1 => intro w' hSw; (try dsimp only at hSw); go_simp; try with_reducible rfl
    try simp only [Act.put, List.setIfInBounds_toArray, List.set_cons_zero, List.set_cons_succ]
    refine wpAnyZ_take (i := 1) (v := ?v2) (ops_at rfl) (by kernel_rfl) (by kernel_rfl) (by kernel_rfl) (by kernel_rfl) [2, 4] (by kernel_rfl) (by rfl) (fun _ _ _ h => h) (Or.inl ⟨by rfl, ?hy2⟩) (by assumption) ?rest2
    case hy2 => intro w' hSw; (try dsimp only at hSw); go_simp; try with_reducible rfl
    try simp only [Act.put, List.setIfInBounds_toArray, List.set_cons_zero, List.set_cons_succ]
    refine wpAnyZ_one (i := 2) (by kernel_rfl) (ops_at rfl) (fun K hK => ?_)
    go_simp
    refine (clone_any p op m k _ HM.out hmb hnil (HA.out _ _ (S1.drew.front 2 rfl))).mono ?_
    rintro e w2 ⟨v2, rfl, ho2, hb2⟩
    obtain ⟨a2, c2, rfl⟩ := ho2.written HM.out
    have HHd3 := hid ho2.hd
    have S3 := ((S1.drew.bytes ho2 hb2).rot).front 7 rfl
    clear ho2 hb2
    refine hK.out _ _ (by exact S3.cell 7 rfl 0 rfl) (fun hHeld => ?_)
    clear hK K
    try simp only [Act.put, List.setIfInBounds_toArray, List.set_cons_zero, List.set_cons_succ]
    refine wpAnyZ_one (i := 3) (by kernel_rfl) (ops_at rfl) (fun K hK => ?_)
    go_simp
    refine hK.out _ _ (by exact (S3.alloc _).cell 7 rfl 0 rfl) (fun hHeld => ?_)
    clear hK K
    try simp only [Act.put, List.setIfInBounds_toArray, List.set_cons_zero, List.set_cons_succ]
    refine wpAnyZ_free (i := 4) (by kernel_rfl) (ops_at rfl) (by kernel_rfl) (fun K hK => ?_)
    refine step_app (by rfl) (.tmp 67) (.tmp 70) eS.T eS.T eS.T rfl rfl _ _ rfl rfl (St.rowsApp eSok S3 ⟨a2, m, c2, op⟩ rfl w2.heap.size rfl _ (by rfl) (xs.length + 1) rfl (by show _ * 24 ≤ _; omega) (by unfold maxLen; omega)) ?_
    rintro v6 w8 ⟨⟨a6, c6, rfl⟩, S6⟩
    have f6 := S6.frozen 6 rfl 0
    have d6 := S6.cell 6 rfl 0 rfl
    refine hK.out _ _ ?_
    clear hK K
    try simp only [Act.put, List.setIfInBounds_toArray, List.set_cons_zero, List.set_cons_succ]
    refine wpAnyZ_free (i := 5) (by kernel_rfl) (ops_at rfl) (by kernel_rfl) (fun K hK => ?_)
    go_simp
    refine hK.out _ _ ?_
    clear hK K
    try simp only [Act.put, List.setIfInBounds_toArray, List.set_cons_zero, List.set_cons_succ]
    refine wpAnyZ_done (by kernel_rfl) ?_ _
    have S7 := S6.setCell 6 rfl 0 (.slice a6 (xs.length + 1) c6)
    have j0 := S7.cell 8 rfl 0 rfl
    have j3 := S7.cell 7 rfl 3 rfl
    have f3 := S7.frozen 7 rfl 3
    have S8 := S7.setCell 7 rfl 3 (.int .i64 ((picA o : Int) + (O.length : Int) + 1))
    have hwr : IntKind.i64.wrap (((picA o + O.length : Nat) : Int) + 1) = ((picA o + O.length + 1 : Nat) : Int) := by rw [IntKind.wrap_i64]; omega
    have hv : (picA o : Int) + (O.length : Int) + 1 = ((picA o + (O ++ [op]).length : Nat) : Int) := by simp; omega
    have HV := hid hv
    clear hv hwr S7 S6 S3 S1
    gi_wp2
    have S9 := S8.putObj 4 rfl rd
    refine ⟨S8.obj 4 rfl, objT (D + 1) rd :: objT D (.deferred (some [])) :: cellsT go 22 [.slice a6 (xs.length + 1) c6] :: rowsT eS bsRefs (.slice a6 (xs.length + 1) c6) (xs ++ [⟨a2, m, c2, op⟩]) :: cellsT gj 70 (jC (.pointer (some ⟨gd, 0, none⟩)) (.pointer (some ⟨gs, 0, none⟩)) (.pointer (some ⟨gl, 0, none⟩)) ((picA o + (O ++ [op]).length : Nat) : Int) (jAge o)) :: cellsT (gj + 1) 26 [(.pointer (some ⟨gj, 0, none⟩))] :: REST, ?_, ?_⟩
    · rw [HRR.out]
      refine ⟨_, _, rfl, by rw [List.map_append, HXS.out]; rfl, fun x hx => ?_⟩
      rcases List.mem_append.1 hx with hx | hx
      · exact HHd2.out x hx
      · simp only [List.mem_singleton] at hx; subst hx; exact HHd3.out
    · rw [← HV.out]
      exact (((((S9.front 6 rfl).front 6 rfl).front 6 rfl).front 6 rfl).front 6 rfl).front 6 rfl
  · rintro e W2 ⟨⟨v, rfl⟩, tk, hR, S13⟩
    rw [HRR.out] at hR
    obtain ⟨v2, xs, rfl, hxs, hhd2⟩ := hR
    have HXS := hid hxs
    have HHd2 := hid hhd2
    refine ⟨⟨v, rfl⟩, S13.obj 3 rfl, ?_⟩
    have S14 := S13.putObj 3 rfl ex
    change Exit.inBlock _ _ _ _ (putO W2 (D + 1) ex)
    generalize putO W2 (D + 1) ex = w8 at *
    simp only [Exit.inBlock, Exit.then]
    have hre := HREST.out
    subst hre
    obtain ⟨F, hF⟩ : ∃ F, (followL (recs.map BS.l) (picA o)) = F := ⟨_, rfl⟩
    rw [hF] at S13 S14 hxs
    have HXS2 := hid hxs
    have HFo : Hid (jOps d q sz = F) := by rw [Hid, jOps, ← HXs.out, HPic.out, hF]
    have S15 : St w0 w8 (rowsT eS bsRefs (.slice aR n cR) recs :: objT D (.deferred (some [])) :: cellsT gj 70 (jC (.pointer (some ⟨gd, 0, none⟩)) (.pointer (some ⟨gs, 0, none⟩)) (.pointer (some ⟨gl, 0, none⟩)) ((picA o + F.length : Nat) : Int) (jAge o)) :: cellsT gl 99 (logC (.pointer (some ⟨gd, 0, none⟩)) (2 * q) sz ((jRecs d q sz).flatMap frameB).length) :: diskT (.pointer (some ⟨gd, 0, none⟩)) D1 :: cellsT gs 97 (slotC (.pointer (some ⟨gd, 0, none⟩)) 0 q) :: roT aP (picL o) :: rowsT eS bsRefs v2 xs :: cellsT (gj + 1) 26 [(.pointer (some ⟨gj, 0, none⟩))] :: cellsT go 22 [v2] :: tl) :=
      ((((((((((((S14.tail.tail.front 1 rfl).tail).front 2 rfl).front 5 rfl).front 4 rfl).front 6 rfl).front 7 rfl).front 8 rfl).front 9 rfl).front 9 rfl).front 9 rfl).front 9 rfl)
    clear S13 S14 hxs hhd2 HRR hR0 S12 HRound
    have HEl : Hid (elderL (recs.map BS.l) (picA o) = jElder d q sz) := by rw [Hid, HXs.out, jElder, HPic.out]
    go_wp2_with fail
    refine (jlElder S15 (by omega) HHd.out HSm.out).mono ?_
    rintro e w9 ⟨rfl, hb9⟩
    rw [HEl.out]
    have S16 := S15.grow hb9
    clear S15 hb9
    obtain ⟨bE, hbE⟩ : ∃ bE, jElder d q sz = bE := ⟨_, rfl⟩
    rw [hbE]
    have HbE := hid hbE
    clear hbE
    have hm2 : xs.length = F.length := by rw [← HXS2.out, List.length_map]
    obtain ⟨b2, k2, rfl⟩ := S16.rowsWritten eSok 7 rfl hm2
    obtain ⟨UU, hUU⟩ : ∃ UU, jUsed d q sz = UU := ⟨_, rfl⟩
    obtain ⟨DD, hDD⟩ : ∃ DD, jDisk d q sz = DD := ⟨_, rfl⟩
    have HUU := hid hUU
    have HDD := hid hDD
    have keep : ∀ {w' : World}, St w0 w' (rowsT eS bsRefs (.slice aR n cR) recs :: objT D (.deferred (some [])) :: cellsT gj 70 (jC (.pointer (some ⟨gd, 0, none⟩)) (.pointer (some ⟨gs, 0, none⟩)) (.pointer (some ⟨gl, 0, none⟩)) ((picA o + F.length : Nat) : Int) (jAge o)) :: cellsT gl 99 (logC (.pointer (some ⟨gd, 0, none⟩)) (2 * q) sz UU) :: diskT (.pointer (some ⟨gd, 0, none⟩)) DD :: cellsT gs 97 (slotC (.pointer (some ⟨gd, 0, none⟩)) 0 q) :: roT aP (picL o) :: rowsT eS bsRefs (.slice b2 F.length k2) xs :: cellsT (gj + 1) 26 [(.pointer (some ⟨gj, 0, none⟩))] :: cellsT go 22 [.slice b2 F.length k2] :: tl) → (w'.cell? ⟨gj + 1, 0, none⟩ = some (.pointer (some ⟨gj, 0, none⟩)) ∧ w'.cell? ⟨go, 0, none⟩ = some (.slice b2 F.length k2)) := fun S => ⟨S.cell 8 rfl 0 rfl, S.cell 9 rfl 0 rfl⟩
    clear hUU hDD
    cases bE
    · have HDk : D1 = DD := by rw [← HDD.out, jDisk, HbE.out, HD1.out]; rfl
      have HU : ((jRecs d q sz).flatMap frameB).length = UU := by rw [← HUU.out, jUsed, HbE.out]; rfl
      have S20 : St w0 w9 (rowsT eS bsRefs (.slice aR n cR) recs :: objT D (.deferred (some [])) :: cellsT gj 70 (jC (.pointer (some ⟨gd, 0, none⟩)) (.pointer (some ⟨gs, 0, none⟩)) (.pointer (some ⟨gl, 0, none⟩)) ((picA o + F.length : Nat) : Int) (jAge o)) :: cellsT gl 99 (logC (.pointer (some ⟨gd, 0, none⟩)) (2 * q) sz UU) :: diskT (.pointer (some ⟨gd, 0, none⟩)) DD :: cellsT gs 97 (slotC (.pointer (some ⟨gd, 0, none⟩)) 0 q) :: roT aP (picL o) :: rowsT eS bsRefs (.slice b2 F.length k2) xs :: cellsT (gj + 1) 26 [(.pointer (some ⟨gj, 0, none⟩))] :: cellsT go 22 [.slice b2 F.length k2] :: tl) := by rw [← HDk, ← HU]; exact S16
      clear S16
      clear HDk HU
      go_upto_region 18 with fail
      refine wp_region_noPanic ?_
      refine wp_region_held_drew (S := (fun w' => (w'.cell? ⟨gj + 1, 0, none⟩ = some (.pointer (some ⟨gj, 0, none⟩)) ∧ w'.cell? ⟨go, 0, none⟩ = some (.slice b2 F.length k2)))) (by kernel_rfl) (by exact keep S20.drew) (fun hHeld => ?_)
      change wpAnyH _ _ _ _ _ 7 (Array.replicate 7 false) _ _
      refine wpAnyH_take (i := 0) (v := ?v3) (ops_at rfl) (by kernel_rfl) (by kernel_rfl) (by kernel_rfl) (fun _ _ _ h => h) (Or.inl ⟨by rfl, ?hy3⟩) (by assumption) ?rest3
      case hy3 => intro w' hSw; (try dsimp only at hSw); go_simp; try with_reducible rfl
      try simp only [Act.put, List.setIfInBounds_toArray, List.set_cons_zero, List.set_cons_succ]
      refine wpAnyH_take (i := 1) (v := ?v4) (ops_at rfl) (by kernel_rfl) (by kernel_rfl) (by kernel_rfl) (fun _ _ _ h => h) (Or.inl ⟨by rfl, ?hy4⟩) (by assumption) ?rest4
      case hy4 => intro w' hSw; (try dsimp only at hSw); go_simp; try with_reducible rfl
      try simp only [Act.put, List.setIfInBounds_toArray, List.set_cons_zero, List.set_cons_succ]
      refine wpAnyH_take (i := 2) (v := ?v5) (ops_at rfl) (by kernel_rfl) (by kernel_rfl) (by kernel_rfl) (fun _ _ _ h => h) (Or.inl ⟨by rfl, ?hy5⟩) (by assumption) ?rest5
      case hy5 => intro w' hSw; (try dsimp only at hSw); go_simp; try with_reducible rfl
      try simp only [Act.put, List.setIfInBounds_toArray, List.set_cons_zero, List.set_cons_succ]
      refine wpAnyH_take (i := 3) (v := ?v6) (ops_at rfl) (by kernel_rfl) (by kernel_rfl) (by kernel_rfl) (fun _ _ _ h => h) (Or.inl ⟨by rfl, ?hy6⟩) (by assumption) ?rest6
      case hy6 => intro w' hSw; (try dsimp only at hSw); go_simp; try with_reducible rfl
      try simp only [Act.put, List.setIfInBounds_toArray, List.set_cons_zero, List.set_cons_succ]
      refine wpAnyH_take (i := 4) (v := ?v7) (ops_at rfl) (by kernel_rfl) (by kernel_rfl) (by kernel_rfl) (fun _ _ _ h => h) (Or.inl ⟨by rfl, ?hy7⟩) (by assumption) ?rest7
      case hy7 => intro w' hSw; (try dsimp only at hSw); go_simp; try with_reducible rfl
      try simp only [Act.put, List.setIfInBounds_toArray, List.set_cons_zero, List.set_cons_succ]
      refine wpAnyH_take (i := 5) (v := ?v8) (ops_at rfl) (by kernel_rfl) (by kernel_rfl) (by kernel_rfl) (fun _ _ _ h => h) (Or.inl ⟨by rfl, ?hy8⟩) (by assumption) ?rest8
      case hy8 => intro w' hSw; (try dsimp only at hSw); go_simp; try with_reducible rfl
      try simp only [Act.put, List.setIfInBounds_toArray, List.set_cons_zero, List.set_cons_succ]
      refine wpAnyH_take (i := 6) (v := ?v9) (ops_at rfl) (by kernel_rfl) (by kernel_rfl) (by kernel_rfl) (fun _ _ _ h => h) (Or.inl ⟨by rfl, ?hy9⟩) (by assumption) ?rest9
      case hy9 => intro w' hSw; (try dsimp only at hSw); go_simp; try with_reducible rfl
      try simp only [Act.put, List.setIfInBounds_toArray, List.set_cons_zero, List.set_cons_succ]
      refine wpAnyH_done (by kernel_rfl) ?_ _
      have S17 := S20.drew
      have hK := S17.obj 1 rfl
      simp only [NoPanic, Exit.then]
      go_wp2_with fail
      refine ⟨by simp, .inl ⟨_, _, rfl, run_takeDeferred hK, ?_⟩⟩
      have S18 := S17.putObj 1 rfl (.deferred none)
      refine ⟨_, results_tmp4 rfl _ _ _, gj, gl, gs, aP, cP, b2, F.length, k2, xs, by rw [HPic.out]; rfl, by rw [HPic.out]; exact HP.out.1, HP.out.2.1, HP.out.2.2, by rw [HFo.out]; exact HXS2.out, hm2, HHd2.out, ?_⟩
      rw [HPic.out, HFo.out, HUU.out, HDD.out]
      exact (((S18.tail.tail.front 6 rfl).tail).front 6 rfl).tail
    · have HDk : D1.nought (2 * q) sz 0 = DD := by rw [← HDD.out, jDisk, HbE.out, HD1.out]; rfl
      have HU : 0 = UU := by rw [← HUU.out, jUsed, HbE.out]; rfl
      have S19 := (S16.front 4 rfl).front 4 rfl
      have HDk2 := hid HDk
      have HU2 := hid HU
      clear HDk HU S16
      go_wp2_with fail
      refine (logClear_any S19 (by rw [HL1.out]; have := HB.out; omega) (by rw [HW1.out]; simp) (by rw [HY1.out]; omega)).mono ?_
      rintro e wa ⟨rfl, S21⟩
      have S20 : St w0 wa (rowsT eS bsRefs (.slice aR n cR) recs :: objT D (.deferred (some [])) :: cellsT gj 70 (jC (.pointer (some ⟨gd, 0, none⟩)) (.pointer (some ⟨gs, 0, none⟩)) (.pointer (some ⟨gl, 0, none⟩)) ((picA o + F.length : Nat) : Int) (jAge o)) :: cellsT gl 99 (logC (.pointer (some ⟨gd, 0, none⟩)) (2 * q) sz UU) :: diskT (.pointer (some ⟨gd, 0, none⟩)) DD :: cellsT gs 97 (slotC (.pointer (some ⟨gd, 0, none⟩)) 0 q) :: roT aP (picL o) :: rowsT eS bsRefs (.slice b2 F.length k2) xs :: cellsT (gj + 1) 26 [(.pointer (some ⟨gj, 0, none⟩))] :: cellsT go 22 [.slice b2 F.length k2] :: tl) := by rw [← HDk2.out, ← HU2.out]; exact ((S21.front 4 rfl).front 4 rfl).front 4 rfl
      clear S19 S21
      have HDk := hid trivial
      have HU := hid trivial
      clear HDk HU
      go_upto_region 18 with fail
      refine wp_region_noPanic ?_
      refine wp_region_held_drew (S := (fun w' => (w'.cell? ⟨gj + 1, 0, none⟩ = some (.pointer (some ⟨gj, 0, none⟩)) ∧ w'.cell? ⟨go, 0, none⟩ = some (.slice b2 F.length k2)))) (by kernel_rfl) (by exact keep S20.drew) (fun hHeld => ?_)
      change wpAnyH _ _ _ _ _ 7 (Array.replicate 7 false) _ _
      refine wpAnyH_take (i := 0) (v := ?v10) (ops_at rfl) (by kernel_rfl) (by kernel_rfl) (by kernel_rfl) (fun _ _ _ h => h) (Or.inl ⟨by rfl, ?hy10⟩) (by assumption) ?rest10
      case hy10 => intro w' hSw; (try dsimp only at hSw); go_simp; try with_reducible rfl
      try simp only [Act.put, List.setIfInBounds_toArray, List.set_cons_zero, List.set_cons_succ]
      refine wpAnyH_take (i := 1) (v := ?v11) (ops_at rfl) (by kernel_rfl) (by kernel_rfl) (by kernel_rfl) (fun _ _ _ h => h) (Or.inl ⟨by rfl, ?hy11⟩) (by assumption) ?rest11
      case hy11 => intro w' hSw; (try dsimp only at hSw); go_simp; try with_reducible rfl
      try simp only [Act.put, List.setIfInBounds_toArray, List.set_cons_zero, List.set_cons_succ]
      refine wpAnyH_take (i := 2) (v := ?v12) (ops_at rfl) (by kernel_rfl) (by kernel_rfl) (by kernel_rfl) (fun _ _ _ h => h) (Or.inl ⟨by rfl, ?hy12⟩) (by assumption) ?rest12
      case hy12 => intro w' hSw; (try dsimp only at hSw); go_simp; try with_reducible rfl
      try simp only [Act.put, List.setIfInBounds_toArray, List.set_cons_zero, List.set_cons_succ]
      refine wpAnyH_take (i := 3) (v := ?v13) (ops_at rfl) (by kernel_rfl) (by kernel_rfl) (by kernel_rfl) (fun _ _ _ h => h) (Or.inl ⟨by rfl, ?hy13⟩) (by assumption) ?rest13
      case hy13 => intro w' hSw; (try dsimp only at hSw); go_simp; try with_reducible rfl
      try simp only [Act.put, List.setIfInBounds_toArray, List.set_cons_zero, List.set_cons_succ]
      refine wpAnyH_take (i := 4) (v := ?v14) (ops_at rfl) (by kernel_rfl) (by kernel_rfl) (by kernel_rfl) (fun _ _ _ h => h) (Or.inl ⟨by rfl, ?hy14⟩) (by assumption) ?rest14
      case hy14 => intro w' hSw; (try dsimp only at hSw); go_simp; try with_reducible rfl
      try simp only [Act.put, List.setIfInBounds_toArray, List.set_cons_zero, List.set_cons_succ]
      refine wpAnyH_take (i := 5) (v := ?v15) (ops_at rfl) (by kernel_rfl) (by kernel_rfl) (by kernel_rfl) (fun _ _ _ h => h) (Or.inl ⟨by rfl, ?hy15⟩) (by assumption) ?rest15
      case hy15 => intro w' hSw; (try dsimp only at hSw); go_simp; try with_reducible rfl
      try simp only [Act.put, List.setIfInBounds_toArray, List.set_cons_zero, List.set_cons_succ]
      refine wpAnyH_take (i := 6) (v := ?v16) (ops_at rfl) (by kernel_rfl) (by kernel_rfl) (by kernel_rfl) (fun _ _ _ h => h) (Or.inl ⟨by rfl, ?hy16⟩) (by assumption) ?rest16
      case hy16 => intro w' hSw; (try dsimp only at hSw); go_simp; try with_reducible rfl
      try simp only [Act.put, List.setIfInBounds_toArray, List.set_cons_zero, List.set_cons_succ]
      refine wpAnyH_done (by kernel_rfl) ?_ _
      have S17 := S20.drew
      have hK := S17.obj 1 rfl
      simp only [NoPanic, Exit.then]
      go_wp2_with fail
      refine ⟨by simp, .inl ⟨_, _, rfl, run_takeDeferred hK, ?_⟩⟩
      have S18 := S17.putObj 1 rfl (.deferred none)
      refine ⟨_, results_tmp4 rfl _ _ _, gj, gl, gs, aP, cP, b2, F.length, k2, xs, by rw [HPic.out]; rfl, by rw [HPic.out]; exact HP.out.1, HP.out.2.1, HP.out.2.2, by rw [HFo.out]; exact HXS2.out, hm2, HHd2.out, ?_⟩
      rw [HPic.out, HFo.out, HUU.out, HDD.out]
      exact (((S18.tail.tail.front 6 rfl).tail).front 6 rfl).tail
end
end Go.Proofs.Ytmfbbonppmhabaa
