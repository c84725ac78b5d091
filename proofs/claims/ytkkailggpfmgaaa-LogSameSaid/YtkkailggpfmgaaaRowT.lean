/- Slices of ours whose elements lead to bytes of ours. -/
import Derived.Test.YtkkailggpfmgaaaSt
namespace Go.Proofs.Ytkkailggpfmgaaa
set_option linter.unusedVariables false
set_option linter.unusedSimpArgs false
open Go.RowKit

section
variable {α : Type} {e : Elt α}
/-- A slice of ours; `refs`: the bytes that an element leads to. -/
def rowsT (e : Elt α) (refs : α → List (Option Addr × List UInt8)) (v : Value) (l : List α) : Thing where
  lies := fun w B F => OwnG e w B v l ∧ (∀ x ∈ l, ∀ r ∈ refs x, At w r.1 r.2 ∧ ∀ y, r.1 = some y → F y.block ∧ v.ownBlock ≠ some y.block) ∧ (∀ b, v.ownBlock = some b → F b) ∧ ∀ b, F b → B ≤ b ∧ b < w.heap.size
  touch := fun ⟨h1, h2, h3, h4⟩ ht _ hM => ⟨h1.touch ht (fun b hb => hM b (h3 b hb)), fun x hx r hr => ⟨(h2 x hx r hr).1.touch ht (fun y hy => hM _ ((h2 x hx r hr).2 y hy).1), (h2 x hx r hr).2⟩, h3, fun b hb => ⟨(h4 b hb).1, Nat.lt_of_lt_of_le (h4 b hb).2 ht.size⟩⟩
  low := fun h => h.2.2.2
variable {refs : α → List (Option Addr × List UInt8)} {w0 w : World} {tl : List Thing} {v : Value} {l : List α}
theorem St.rowsNil (S : St w0 w tl) : St w0 w (rowsT e refs (.slice none 0 0) [] :: tl) :=
  (S.push (Below.refl _ _) (y := rowsT e refs (.slice none 0 0) []) (F := fun _ => False) ⟨OwnG.nil _ _, by simp, fun b hb => by simp [Value.ownBlock] at hb, fun _ h => h.elim⟩ (fun _ h => h.elim)).rot
/-- `append(v, x)`, x leading to bytes of ours, which go into the slice. -/
theorem St.rowsApp (he : e.Ok) {a : Option Addr} {n c : Nat} {bs : List UInt8} (S : St w0 w (rowsT e refs v l :: bytesT (.slice a n c) bs :: tl)) (x : α) (hx : refs x = [(a, bs)]) (g : Nat) (hg : g = w.heap.size) (cs : Array Value) (hc : cs.toList = e.enc x)
    (N : Nat) (hN : l.length + 1 = N) (hlen : N * e.byt ≤ 140737488355328) (h63 : N ≤ maxLen) :
    ∃ v' w', (Builtin.append_ #[e.T, e.T] e.T #[v, .slice (some ⟨g, 0, none⟩) 1 1]).run Try.prog (w.alloc (.cells cs e.E)) = .ok v' w' ∧ (∃ a c, v' = .slice a N c) ∧ St w0 w' (rowsT e refs v' (l ++ [x]) :: tl) := by
  subst hN
  obtain ⟨F, ⟨G, H, ⟨h1, h2, h3, h4⟩, ⟨k1, k2⟩, hd, hF⟩, hs⟩ := S.joinF.step 0 rfl
  have hBs := S.size
  obtain ⟨v', w', hr, ha⟩ := runG_full1 he w g hg w0.heap.size v l h1 x cs hc hlen h63 (by rw [hg]; exact hBs)
  have hat : At w a bs ∧ ∀ y, a = some y → H y.block := by
    obtain ⟨a', c', e', _, _, _, hb, ho⟩ := OwnG.at eBok ((ownB _ _ _ _).2 k1)
    cases e'
    exact ⟨(atB _ _ _).1 hb, fun y hy => (k2 _).2 (ho y hy)⟩
  have kl := own_lt ((ownB _ _ _ _).2 k1)
  have ht : Touch F w w' := ha.touch.mono fun b hb => (hF b).2 (.inl (h3 b hb))
  refine ⟨v', w', hr, ha.own.written he (by simp), ?_⟩
  refine hs w' (rowsT e refs v' (l ++ [x])) (fun b => F b ∨ v'.ownBlock = some b) ⟨ha.own, ?_, fun b hb => .inr hb, ?_⟩ ht ?_
  · have hne : ∀ b, b < w.heap.size → v.ownBlock ≠ some b → v'.ownBlock ≠ some b := by
      intro b hb h hv
      rcases ha.blk b hv with h5 | h5
      · exact h h5
      · omega
    intro z hz r hr
    rcases List.mem_append.1 hz with hz | hz
    · obtain ⟨q1, q2⟩ := h2 z hz r hr
      exact ⟨q1.touch ha.touch (fun y hy => (q2 y hy).2), fun y hy => ⟨.inl ((hF _).2 (.inl (q2 y hy).1)), hne _ (h4 _ (q2 y hy).1).2 (q2 y hy).2⟩⟩
    · simp at hz
      subst hz
      rw [hx] at hr
      simp at hr
      subst hr
      refine ⟨hat.1.touch ha.touch (fun y hy hv => hd _ (h3 _ hv) (hat.2 y hy)), fun y hy => ⟨.inl ((hF _).2 (.inr (hat.2 y hy))), hne _ (kl _ ((k2 _).1 (hat.2 y hy))).2 (fun hv => hd _ (h3 _ hv) (hat.2 y hy))⟩⟩
  · rintro b (hb | hb)
    · have := (hF b).1 hb
      rcases this with hb | hb
      · exact ⟨(h4 b hb).1, Nat.lt_of_lt_of_le (h4 b hb).2 ht.size⟩
      · exact ⟨(kl b ((k2 b).1 hb)).1, Nat.lt_of_lt_of_le (kl b ((k2 b).1 hb)).2 ht.size⟩
    · exact own_lt ha.own b hb
  · rintro b (hb | hb)
    · exact .inl hb
    · rcases ha.blk b hb with h | h
      · exact .inl ((hF b).2 (.inl (h3 b h)))
      · exact .inr h
theorem St.rowsWritten (he : e.Ok) (S : St w0 w tl) (k : Nat) (h : tl[k]? = some (rowsT e refs v l)) {n : Nat} (hn : l.length = n) : ∃ a c, v = .slice a n c := by
  obtain ⟨F, h1, _⟩ := S.head k h
  exact h1.written he hn
theorem St.rowsAt (he : e.Ok) (S : St w0 w tl) (k : Nat) {a : Option Addr} {n c : Nat} (h : tl[k]? = some (rowsT e refs (.slice a n c) l)) :
    l.length = n ∧ n ≤ c ∧ c ≤ maxLen ∧ (a = none → c = 0) ∧ AtG e w a l ∧ ∀ x ∈ l, ∀ r ∈ refs x, At w r.1 r.2 := by
  obtain ⟨F, h1, h2, _⟩ := S.head k h
  obtain ⟨a', c', e', q1, q2, q3, q4, _⟩ := OwnG.at he h1
  cases e'
  exact ⟨rfl, q1, q2, q3, q4, fun x hx r hr => (h2 x hx r hr).1⟩
end

/-- A slice of bytes as an element. -/
structure BS where
  a : Option Addr
  n : Nat
  c : Nat
  l : List UInt8
def eS : Elt BS := { T := 28, E := 32, s := 1, byt := 24, z := .slice none 0 0, enc := fun x => [.slice x.a x.n x.c] }
theorem eSok : eS.Ok := ⟨fun _ => rfl, fun x u hu => by simp [eS] at hu; subst hu; rfl, by decide, by kernel_rfl, by kernel_rfl, by rfl⟩
structure BS.Ok (w : World) (x : BS) : Prop where
  len : x.l.length = x.n
  le : x.n ≤ x.c
  nil : x.a = none → x.c = 0
  at_ : At w x.a x.l
def bsRefs (x : BS) : List (Option Addr × List UInt8) := [(x.a, x.l)]
theorem AtG.cellS {w : World} {a : Option Addr} {l : List BS} (h : AtG eS w a l) {k : Nat} (hk : k < l.length) : w.cell? (adr a k) = some (.slice l[k].a l[k].n l[k].c) := by
  have := (h k hk).2 0 (by decide)
  rwa [show k * eS.s + 0 = k from Nat.mul_one k] at this
theorem idxS (a : Option Addr) (n cap : Nat) (hn : 0 < n → a.isSome = true) (k : Nat) (i : Int) (hi : i = (k : Int)) (hk : k < n) (wx : World) :
    (Instr.indexAt 28 (.slice a n cap) (.int .i64 i)).run Try.prog wx = .ok (.pointer (some (adr a k))) wx := by
  have := idxG eSok a n cap hn k i hi hk wx
  rwa [show k * eS.s = k from Nat.mul_one k] at this

end Go.Proofs.Ytkkailggpfmgaaa
