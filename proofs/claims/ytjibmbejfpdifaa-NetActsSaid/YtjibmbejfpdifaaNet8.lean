/- A net as one thing, and what its methods do of it. -/
import Derived.Test.YtjibmbejfpdifaaNet7
namespace Go.Proofs.Ytjibmbejfpdifaa
set_option linter.unusedVariables false
set_option linter.unusedSimpArgs false
open Go.RowKit

/-- Things as one. -/
def allT : List Thing → Thing
  | [] => { lies := fun w B F => ∀ b, ¬ F b, touch := fun h _ _ _ => h, low := fun h b hb => (h b hb).elim }
  | x :: l => sepT x (allT l)
theorem St.allI {w0 w : World} : ∀ (l tl : List Thing), St w0 w (l ++ tl) → St w0 w (allT l :: tl)
  | [], tl, S => (S.push (Below.refl _ _) (y := allT []) (F := fun _ => False) (fun b h => h) (fun _ h => h.elim)).rot
  | x :: l, tl, S => by
    have h1 : St w0 w (l ++ (tl ++ [x])) := St.conv (St.unrot (y := x) (l := l ++ tl) S) (by simp)
    have h2 := St.allI l (tl ++ [x]) h1
    exact (St.rot (l := allT l :: tl) h2).joinF
theorem St.allF {w0 w : World} : ∀ (l tl : List Thing), St w0 w (allT l :: tl) → St w0 w (l ++ tl)
  | [], tl, S => S.tail
  | x :: l, tl, S => by
    have h1 : St w0 w (x :: allT l :: tl) := S.splitF
    have h2 : St w0 w (allT l :: (tl ++ [x])) := St.unrot (y := x) (l := allT l :: tl) h1
    have h3 := St.allF l (tl ++ [x]) h2
    exact (St.rot (l := l ++ tl) (St.conv h3 (by simp)))

/-- A message on its way: which bit of it was turned. -/
structure NM where
  m : Msg
  k : Option Nat
def NM.bytes (x : NM) : List UInt8 := match x.k with | none => putM x.m | some k => flipB (putM x.m) k
def NM.ok (x : NM) : Prop := x.m.right = true ∧ ∀ k, x.k = some k → k / 8 < (putM x.m).length
def NM.shown (x : NM) : Option Msg := match x.k with | none => some x.m | some _ => none
def NM.nil : NM := ⟨Msg.zero, none⟩
/-- All messages on their way, and how often one was sent. -/
structure NS where
  l : List NM
  sent : Nat
def NS.ok (s : NS) : Prop := s.l.length ≤ 40 ∧ ∀ x ∈ s.l, x.ok
def nSend (s : NS) (m : Msg) : Bool × NS := if s.l.length < 40 ∧ m.right = true then (true, ⟨s.l ++ [⟨m, none⟩], s.sent + 1⟩) else (false, s)
def nDrop (s : NS) (i : Int) : Bool × NS := if 0 ≤ i ∧ i < (s.l.length : Int) then (true, ⟨s.l.eraseIdx i.toNat, s.sent⟩) else (false, s)
def nDeliver (s : NS) (i : Int) : Option Msg × NS := if 0 ≤ i ∧ i < (s.l.length : Int) then ((s.l.getD i.toNat NM.nil).shown, ⟨s.l.eraseIdx i.toNat, s.sent⟩) else (none, s)
def nTwice (s : NS) (i : Int) : Bool × NS := if (0 ≤ i ∧ i < (s.l.length : Int)) ∧ s.l.length < 40 then (true, ⟨s.l ++ [s.l.getD i.toNat NM.nil], s.sent⟩) else (false, s)
def nFlip (s : NS) (i bit : Int) : Bool × NS :=
  if (0 ≤ i ∧ i < (s.l.length : Int)) ∧ (0 ≤ bit ∧ bit / 8 < ((putM (s.l.getD i.toNat NM.nil).m).length : Int)) ∧ (s.l.getD i.toNat NM.nil).k = none then
    (true, ⟨s.l.set i.toNat ⟨(s.l.getD i.toNat NM.nil).m, some bit.toNat⟩, s.sent⟩)
  else (false, s)
def nList (s : NS) : List Msg := s.l.filterMap NM.shown

theorem getD_at {α : Type} {l : List α} {i : Nat} {d : α} (h : i < l.length) : l.getD i d = l[i] := by simp [List.getD, h]
theorem putM_len {m : Msg} (h : m.right = true) : 18 ≤ (putM m).length ∧ (putM m).length ≤ 47 ∧ putM m = frameB (codeList m.nums) ∧ (putM m).length = (codeList m.nums).length + 6 := by
  obtain ⟨c1, c2⟩ := Msg.codeLen h
  have e : putM m = frameB (codeList m.nums) := by unfold putM; rw [if_pos h]
  have hl := frame_len (p := codeList m.nums) (by omega) (by omega)
  have h1 : (codeNum ((codeList m.nums).length : Int)).length = 1 := by
    rw [codeNum_yes (by omega), numF, if_pos (by omega)]; rfl
  rw [e, hl]
  exact ⟨by omega, by omega, rfl, by omega⟩
theorem flipB_len (l : List UInt8) (k : Nat) : (flipB l k).length = l.length := List.length_set ..
theorem NM.len {x : NM} (h : x.ok) : x.bytes.length = (putM x.m).length ∧ x.bytes.length ≤ 47 := by
  have := putM_len h.1
  have e : x.bytes.length = (putM x.m).length := by
    unfold NM.bytes
    split
    · rfl
    · exact flipB_len _ _
  exact ⟨e, by omega⟩
/-- A message with a bit turned is none. -/
theorem getM_flip {m : Msg} (h : m.right = true) {k : Nat} (hk : k / 8 < (putM m).length) : getM (flipB (putM m) k) = none := by
  rcases hg : getM (flipB (putM m) k) with _ | m'
  · rfl
  exfalso
  obtain ⟨h1, h2⟩ := getM_right hg
  obtain ⟨p1, p2, p3, p4⟩ := putM_len h
  obtain ⟨q1, q2, q3, q4⟩ := putM_len h1
  have hlen : (putM m').length = (putM m).length := by rw [h2, flipB_len]
  obtain ⟨hne, -⟩ := bit_turned ((putM m)[k / 8]) (k % 8) (by omega)
  have hgd : (putM m).getD (k / 8) 0 = (putM m)[k / 8] := getD_at hk
  have hset : flipB (putM m) k = (putM m).set (k / 8) ((putM m)[k / 8] ^^^ UInt8.ofNat (2 ^ (k % 8))) := by unfold flipB; rw [hgd]
  obtain ⟨c1, c2⟩ := Msg.codeLen h
  obtain ⟨d1, d2⟩ := Msg.codeLen h1
  rw [hset] at h2 hg
  clear hset hgd
  generalize UInt8.ofNat (2 ^ (k % 8)) = d at *
  generalize k / 8 = j at *
  have one : ∀ n : Nat, 12 ≤ n → n ≤ 34 → codeNum (n : Int) = [UInt8.ofNat n] := by
    intro n h1 h2
    rw [codeNum_yes (by omega), numF, if_pos (by omega)]
  by_cases h0 : j = 0
  · -- the length's own byte
    subst h0
    have e1 : (putM m)[0]? = some (UInt8.ofNat (codeList m.nums).length) := by
      rw [p3, frame_parts (by omega) (by omega), one _ c1 c2]; rfl
    have e2 : (putM m')[0]? = some (UInt8.ofNat (codeList m'.nums).length) := by
      rw [q3, frame_parts (by omega) (by omega), one _ d1 d2]; rfl
    rw [h2, List.getElem?_set_self (by omega)] at e2
    have e3 : (codeList m'.nums).length = (codeList m.nums).length := by omega
    rw [e3, ← e1, List.getElem?_eq_getElem (by omega)] at e2
    exact hne (Option.some.inj e2)
  · have hj : j < (frameB (codeList m.nums)).length := by rw [← p3]; exact hk
    have hfm : (frameB (codeList m.nums))[j] = (putM m)[j] := by simp only [p3]
    have ht := fGet_turned (p := codeList m.nums) (by omega) (by omega) j (by rw [one _ c1 c2]; simp; omega) hj ((putM m)[j] ^^^ d) (by rw [hfm]; exact hne)
    unfold getM at hg
    rw [← p3] at ht
    rw [ht] at hg
    simp at hg
theorem NM.get {x : NM} (h : x.ok) : getM x.bytes = x.shown := by
  obtain ⟨h1, h2⟩ := h
  unfold NM.bytes NM.shown
  cases hk : x.k with
  | none => exact getM_put h1
  | some k => exact getM_flip h1 (h2 k hk)

/-- What lies in a net's pieces. -/
def NMatch (s : NS) (pcs : List Pc) : Prop := pcs.map (fun x => (x.b, x.t)) = s.l.map (fun x => (x.bytes, x.k.isSome)) ∧ s.ok
theorem NMatch.len {s : NS} {pcs : List Pc} (h : NMatch s pcs) : pcs.length = s.l.length := by
  have := congrArg List.length h.1
  simpa using this
theorem NMatch.at {s : NS} {pcs : List Pc} (h : NMatch s pcs) {k : Nat} (hk : k < pcs.length) (hk2 : k < s.l.length) : pcs[k].b = s.l[k].bytes ∧ pcs[k].t = s.l[k].k.isSome := by
  have h1 : (pcs.map (fun x => (x.b, x.t)))[k]? = (s.l.map (fun x => (x.bytes, x.k.isSome)))[k]? := by rw [h.1]
  rw [List.getElem?_map, List.getElem?_map, List.getElem?_eq_getElem hk, List.getElem?_eq_getElem hk2] at h1
  simp at h1
  exact h1
/-- A net at block `g`. -/
def netT (g : Nat) (s : NS) : Thing := exT fun (q : Option Addr × Nat × List Pc) => andT (NMatch s q.2.2) (allT (netL g q.1 q.2.1 q.2.2 s.sent []))
section
variable {w0 w : World} {tl r : List Thing} {g : Nat} {s : NS}
theorem netL_app {g : Nat} {a : Option Addr} {c : Nat} {pcs : List Pc} {sent : Nat} {tl : List Thing} : netL g a c pcs sent [] ++ tl = netL g a c pcs sent tl := by simp [netL]
theorem St.netO (S : St w0 w (netT g s :: tl)) : ∃ a c pcs, NMatch s pcs ∧ St w0 w (netL g a c pcs s.sent tl) := by
  obtain ⟨⟨a, c, pcs⟩, S⟩ := S.exF
  obtain ⟨h, S⟩ := S.andF
  exact ⟨a, c, pcs, h, St.conv (St.allF _ _ S) netL_app⟩
theorem St.netI {a : Option Addr} {c : Nat} {pcs : List Pc} (h : NMatch s pcs) (S : St w0 w (netL g a c pcs s.sent tl)) : St w0 w (netT g s :: tl) :=
  St.exI (a, c, pcs) (St.andI h (St.allI _ _ (St.conv S netL_app.symm)))
theorem St.pcLen {a : Option Addr} {c sent : Nat} {pcs : List Pc} (S : St w0 w (netL g a c pcs sent tl)) : ∀ x ∈ pcs, x.b.length = x.n := by
  intro x hx
  obtain ⟨k, hk, rfl⟩ := List.getElem_of_mem hx
  exact (S.slA (2 + k) (netL_pc hk)).1
theorem NMatch.small {a : Option Addr} {c sent : Nat} {pcs : List Pc} (h : NMatch s pcs) (S : St w0 w (netL g a c pcs sent tl)) : ∀ x ∈ pcs, x.n ≤ 1000000 := by
  intro x hx
  have hl := h.len
  have := S.pcLen x hx
  obtain ⟨k, hk, rfl⟩ := List.getElem_of_mem hx
  have h1 := (h.at hk (by omega)).1
  have h2 := (NM.len (h.2.2 _ (List.getElem_mem (show k < s.l.length by omega)))).2
  rw [← h1] at h2
  omega
theorem St.netOk (S : St w0 w r) (k : Nat) (hk : r[k]? = some (netT g s)) : s.ok := by
  obtain ⟨a, c, pcs, h, -⟩ := (S.front k hk).netO
  exact h.2
theorem St.put {w0 w : World} {l : List Thing} {k : Nat} {x y : Thing} (h : l[k]? = some x) (S : St w0 w (y :: l.eraseIdx k)) : St w0 w (l.set k y) := S.back (List.getElem?_eq_some_iff.1 h).1
/-- A new net. -/
theorem St.netNew (S : St w0 w r) : St w0 (w.alloc (.cells #[.slice none 0 0, .int .i64 0] 47)) (r ++ [netT w.heap.size ⟨[], 0⟩]) := by
  have S1 : St w0 _ (cellsT w.heap.size 47 [.slice none 0 0, .int .i64 ((0 : Nat) : Int)] :: r) := (S.newCells 47 #[.slice none 0 0, .int .i64 0]).rot
  have S2 := ((S1.nilC ePc).rot.swap)
  have S3 : St w0 _ (netT w.heap.size ⟨[], 0⟩ :: r) := St.netI (s := ⟨[], 0⟩) (pcs := []) (a := none) (c := 0) ⟨rfl, by simp [NS.ok]⟩ (St.conv S2 (by simp [netL]))
  exact S3.unrot
theorem hnSend (S : St w0 w r) (k : Nat) (hk : r[k]? = some (netT g s)) (hs : s.sent ≤ 1000000) (m : Msg) :
    Calls Try.prog 22 #[.pointer (some ⟨g, 0, none⟩), .agg #[.int .i64 m.node, .int .i64 m.kind, .int .i64 m.term, .int .i64 m.gen, .int .i64 m.job, .int .i64 m.inc, .int .i64 m.version, .int .i64 m.epoch, .int .i64 m.until_, .int .i64 m.mode, .int .i64 m.work]] w fun e w' => e = .returned (.bool (nSend s m).1) ∧ St w0 w' (r.set k (netT g (nSend s m).2)) := by
  obtain ⟨a, c, pcs, hM, S1⟩ := (S.front k hk).netO
  have hlen := hM.len
  refine (netSend_any S1 hs m).mono ?_
  intro e w' h
  unfold SendPost at h
  unfold nSend
  by_cases hc : s.l.length < 40 ∧ m.right = true
  · rw [if_pos (by rw [hlen]; exact hc)] at h
    rw [if_pos hc]
    obtain ⟨a', c', x, rfl, h1, h2, h3, S2⟩ := h
    refine ⟨rfl, St.put hk (St.netI (s := ⟨s.l ++ [⟨m, none⟩], s.sent + 1⟩) ⟨?_, ?_, ?_⟩ S2)⟩
    · rw [List.map_append, List.map_append, hM.1, List.map_singleton, List.map_singleton, h1, h2]; rfl
    · simp; omega
    · intro y hy
      rcases List.mem_append.1 hy with hy | hy
      · exact hM.2.2 y hy
      · simp at hy; subst hy; exact ⟨hc.2, fun k hk => by cases hk⟩
  · rw [if_neg (by rw [hlen]; exact hc)] at h
    rw [if_neg hc]
    exact ⟨h.1, St.put hk (St.netI hM h.2)⟩
theorem NMatch.erase {pcs : List Pc} (h : NMatch s pcs) (i : Nat) : NMatch ⟨s.l.eraseIdx i, s.sent⟩ (pcs.eraseIdx i) := by
  have hl := h.2.1
  have h3 : (s.l.eraseIdx i).length ≤ s.l.length := by
    rw [List.length_eraseIdx]; split <;> omega
  refine ⟨?_, ?_, fun x hx => h.2.2 x (List.mem_of_mem_eraseIdx hx)⟩
  · rw [List.eraseIdx_eq_take_drop_succ, List.eraseIdx_eq_take_drop_succ, List.map_append, List.map_append, List.map_take, List.map_take, List.map_drop, List.map_drop, h.1]
  · show (s.l.eraseIdx i).length ≤ 40
    omega
theorem hnDrop (S : St w0 w r) (k : Nat) (hk : r[k]? = some (netT g s)) (i : Int) :
    Calls Try.prog 23 #[.pointer (some ⟨g, 0, none⟩), .int .i64 i] w fun e w' => e = .returned (.bool (nDrop s i).1) ∧ St w0 w' (r.set k (netT g (nDrop s i).2)) := by
  obtain ⟨a, c, pcs, hM, S1⟩ := (S.front k hk).netO
  have hlen := hM.len
  have h40 := hM.2.1
  refine (netDrop_any S1 (by omega) i).mono ?_
  intro e w' h
  unfold DropPost at h
  unfold nDrop
  by_cases hc : 0 ≤ i ∧ i < (s.l.length : Int)
  · rw [dif_pos (by rw [hlen]; exact hc)] at h
    rw [if_pos hc]
    obtain ⟨a', c', rfl, S2⟩ := h
    exact ⟨rfl, St.put hk (St.netI (s := ⟨s.l.eraseIdx i.toNat, s.sent⟩) (hM.erase i.toNat) S2.netFront.tail)⟩
  · rw [dif_neg (by rw [hlen]; exact hc)] at h
    rw [if_neg hc]
    exact ⟨h.1, St.put hk (St.netI hM h.2)⟩
theorem hnDeliver (S : St w0 w r) (k : Nat) (hk : r[k]? = some (netT g s)) (i : Int) :
    Calls Try.prog 21 #[.pointer (some ⟨g, 0, none⟩), .int .i64 i] w fun e w' => GetMPost (nDeliver s i).1 e ∧ St w0 w' (r.set k (netT g (nDeliver s i).2)) := by
  obtain ⟨a, c, pcs, hM, S1⟩ := (S.front k hk).netO
  have hlen := hM.len
  have h40 := hM.2.1
  refine (netDeliver_any S1 (by omega) (hM.small S1) i).mono ?_
  intro e w' h
  unfold DelivPost at h
  unfold nDeliver
  by_cases hc : 0 ≤ i ∧ i < (s.l.length : Int)
  · rw [dif_pos (by rw [hlen]; exact hc)] at h
    rw [if_pos hc]
    obtain ⟨a', c', h1, S2⟩ := h
    have hi : i.toNat < s.l.length := by omega
    have e1 := (hM.at (show i.toNat < pcs.length by omega) hi).1
    rw [e1, NM.get (hM.2.2 _ (List.getElem_mem hi))] at h1
    rw [getD_at hi]
    exact ⟨h1, St.put hk (St.netI (s := ⟨s.l.eraseIdx i.toNat, s.sent⟩) (hM.erase i.toNat) S2)⟩
  · rw [dif_neg (by rw [hlen]; exact hc)] at h
    rw [if_neg hc]
    exact ⟨h.1, St.put hk (St.netI hM h.2)⟩
theorem hnTwice (S : St w0 w r) (k : Nat) (hk : r[k]? = some (netT g s)) (i : Int) :
    Calls Try.prog 24 #[.pointer (some ⟨g, 0, none⟩), .int .i64 i] w fun e w' => e = .returned (.bool (nTwice s i).1) ∧ St w0 w' (r.set k (netT g (nTwice s i).2)) := by
  obtain ⟨a, c, pcs, hM, S1⟩ := (S.front k hk).netO
  have hlen := hM.len
  have h40 := hM.2.1
  refine (netTwice_any S1 (by omega) (hM.small S1) i).mono ?_
  intro e w' h
  unfold TwicePost at h
  unfold nTwice
  by_cases hc : (0 ≤ i ∧ i < (s.l.length : Int)) ∧ s.l.length < 40
  · rw [dif_pos (by rw [hlen]; exact hc)] at h
    rw [if_pos hc]
    obtain ⟨a', c', x, rfl, h1, h2, S2⟩ := h
    have hi : i.toNat < s.l.length := by omega
    have e1 := hM.at (show i.toNat < pcs.length by omega) hi
    rw [getD_at hi]
    refine ⟨rfl, St.put hk (St.netI (s := ⟨s.l ++ [s.l[i.toNat]], s.sent⟩) ⟨?_, ?_, ?_⟩ S2)⟩
    · rw [List.map_append, List.map_append, hM.1, List.map_singleton, List.map_singleton, h1, h2, e1.1, e1.2]
    · simp; omega
    · intro y hy
      rcases List.mem_append.1 hy with hy | hy
      · exact hM.2.2 y hy
      · simp at hy; subst hy; exact hM.2.2 _ (List.getElem_mem hi)
  · rw [dif_neg (by rw [hlen]; exact hc)] at h
    rw [if_neg hc]
    exact ⟨h.1, St.put hk (St.netI hM h.2)⟩
theorem hnFlip (S : St w0 w r) (k : Nat) (hk : r[k]? = some (netT g s)) (i bit : Int) (hbit : bit ≤ 9223372036854775807) :
    Calls Try.prog 25 #[.pointer (some ⟨g, 0, none⟩), .int .i64 i, .int .i64 bit] w fun e w' => e = .returned (.bool (nFlip s i bit).1) ∧ St w0 w' (r.set k (netT g (nFlip s i bit).2)) := by
  obtain ⟨a, c, pcs, hM, S1⟩ := (S.front k hk).netO
  have hlen := hM.len
  have h40 := hM.2.1
  refine (netFlip_any S1 i bit hbit).mono ?_
  intro e w' h
  unfold FlipPost at h
  unfold nFlip
  by_cases hi : 0 ≤ i ∧ i < (s.l.length : Int)
  case neg =>
    rw [if_neg (fun q => hi (by rw [← hlen]; exact q.1))] at h
    rw [if_neg (fun q => hi q.1)]
    exact ⟨h.1, St.put hk (St.netI hM h.2)⟩
  have hi2 : i.toNat < s.l.length := by omega
  have hi3 : i.toNat < pcs.length := by omega
  have e1 := hM.at hi3 hi2
  have hx := hM.2.2 _ (List.getElem_mem hi2)
  have hl := (NM.len hx).1
  have hgd : pcs.getD i.toNat Pc.nil = pcs[i.toNat] := getD_at hi3
  rw [hgd] at h
  rw [getD_at hi2]
  have ht : pcs[i.toNat].t = false ↔ s.l[i.toNat].k = none := by rw [e1.2]; cases s.l[i.toNat].k <;> simp
  by_cases hc : (0 ≤ bit ∧ bit / 8 < ((putM s.l[i.toNat].m).length : Int)) ∧ s.l[i.toNat].k = none
  · rw [if_pos ⟨by rw [hlen]; exact hi, by rw [e1.1, hl]; exact hc.1, ht.2 hc.2⟩] at h
    rw [if_pos ⟨hi, hc⟩]
    refine ⟨h.1, St.put hk (St.netI (s := ⟨s.l.set i.toNat ⟨s.l[i.toNat].m, some bit.toNat⟩, s.sent⟩) ⟨?_, ?_, ?_⟩ h.2)⟩
    · rw [List.map_set, List.map_set, hM.1]
      congr 1
      have eb : s.l[i.toNat].bytes = putM s.l[i.toNat].m := by unfold NM.bytes; rw [hc.2]
      simp only [Pc.flip, e1.1, eb]
      rfl
    · show (s.l.set i.toNat _).length ≤ 40
      rw [List.length_set]; exact h40
    · intro y hy
      rcases List.mem_or_eq_of_mem_set hy with hy | hy
      · exact hM.2.2 y hy
      · subst hy
        refine ⟨hx.1, fun k hk => ?_⟩
        injection hk with hk
        subst hk
        show bit.toNat / 8 < (putM s.l[i.toNat].m).length
        omega
  · rw [if_neg (fun q => hc ⟨by rw [← hl, ← e1.1]; exact q.2.1, ht.1 q.2.2⟩)] at h
    rw [if_neg (fun q => hc q.2)]
    exact ⟨h.1, St.put hk (St.netI hM h.2)⟩
theorem hnLen (S : St w0 w r) (k : Nat) (hk : r[k]? = some (netT g s)) :
    Calls Try.prog 26 #[.pointer (some ⟨g, 0, none⟩)] w fun e w' => e = .returned (.int .i64 (s.l.length : Int)) ∧ w = w' := by
  obtain ⟨a, c, pcs, hM, S1⟩ := (S.front k hk).netO
  rw [← hM.len]
  exact netLen_any S1
theorem hnSent (S : St w0 w r) (k : Nat) (hk : r[k]? = some (netT g s)) :
    Calls Try.prog 27 #[.pointer (some ⟨g, 0, none⟩)] w fun e w' => e = .returned (.int .i64 (s.sent : Int)) ∧ w = w' := by
  obtain ⟨a, c, pcs, hM, S1⟩ := (S.front k hk).netO
  exact netSent_any S1
theorem NMatch.list {pcs : List Pc} (h : NMatch s pcs) : msgsOf pcs pcs.length = nList s := by
  unfold msgsOf nList
  rw [List.take_length]
  have h1 : pcs.map Pc.b = s.l.map NM.bytes := by
    have := congrArg (List.map Prod.fst) h.1
    rw [List.map_map, List.map_map] at this
    exact this
  have e1 : pcs.filterMap (fun x => getM x.b) = (pcs.map Pc.b).filterMap getM := by rw [List.filterMap_map]; rfl
  rw [e1, h1, List.filterMap_map]
  have hg : ∀ l : List NM, (∀ x ∈ l, x.ok) → l.filterMap (getM ∘ NM.bytes) = l.filterMap NM.shown := by
    intro l
    induction l with
    | nil => intro _; rfl
    | cons x l ih =>
      intro hl
      rw [List.filterMap_cons, List.filterMap_cons, ih (fun y hy => hl y (by simp [hy]))]
      simp only [Function.comp, NM.get (hl x (by simp))]
  exact hg _ h.2.2
theorem hnList (S : St w0 w r) (k : Nat) (hk : r[k]? = some (netT g s)) (n : Nat) (hn : (nList s).length = n) :
    Calls Try.prog 28 #[.pointer (some ⟨g, 0, none⟩)] w fun e w' => ∃ a c, e = .returned (.slice a n c) ∧ St w0 w' (r ++ [ownT eM (.slice a n c) (nList s)]) := by
  subst hn
  obtain ⟨a, c, pcs, hM, S1⟩ := (S.front k hk).netO
  have hlen := hM.len
  have h40 := hM.2.1
  refine (netList_any S1 (by omega) (hM.small S1)).mono ?_
  rintro e w' ⟨a', c', rfl, S2⟩
  rw [hM.list] at S2
  refine ⟨a', c', by rw [hM.list], ?_⟩
  have S3 := St.netI (g := g) (tl := r.eraseIdx k ++ [ownT eM (.slice a' (nList s).length c') (nList s)]) (a := a) (c := c) hM (St.conv (St.unrot S2) (by simp [netL]))
  have S4 : St w0 w' (netT g s :: (r ++ [ownT eM (.slice a' (nList s).length c') (nList s)]).eraseIdx k) := by
    rw [List.eraseIdx_append_of_lt_length (List.getElem?_eq_some_iff.1 hk).1]; exact S3
  have S5 := St.put (S := S4) (l := r ++ [ownT eM (.slice a' (nList s).length c') (nList s)]) (k := k) (x := netT g s) (h := by rw [List.getElem?_append_left (List.getElem?_eq_some_iff.1 hk).1]; exact hk)
  refine St.conv S5 ?_
  refine List.ext_getElem? fun i => ?_
  by_cases h : k = i
  · subst h
    rw [List.getElem?_set_self (by rw [List.length_append]; have := (List.getElem?_eq_some_iff.1 hk).1; omega), List.getElem?_append_left (List.getElem?_eq_some_iff.1 hk).1, hk]
  · rw [List.getElem?_set_ne h]
end

end Go.Proofs.Ytjibmbejfpdifaa
