/- A store, or none. -/
import Derived.Test.YtilobmefomoemaaStoreNil
import Derived.Test.YtilobmefomoemaaStoreLaw6
namespace Go.Proofs.Ytilobmefomoemaa
set_option linter.unusedVariables false
set_option linter.unusedSimpArgs false
open Go.RowKit
/-- Something that lies nowhere. -/
def noneT (p : Prop) : Thing where
  lies := fun w B F => p ∧ ∀ b, ¬ F b
  touch := fun ⟨a, h⟩ ht hB hM => ⟨a, h⟩
  low := fun ⟨a, h⟩ b hb => (h b hb).elim
def soT (sv : Value) : Option SS → Thing
  | none => noneT (sv = .pointer none)
  | some s => exT fun g => andT (sv = .pointer (some ⟨g, 0, none⟩)) (storeT g s)
def oStage (o : Option SS) (term job ep : Int) (d : List UInt8) : Int × Option SS :=
  match o with
  | none => (1, none)
  | some s => ((sStage s term job ep d).1, some (sStage s term job ep d).2)
def oGet (o : Option SS) (job ep : Int) : Option (List UInt8) :=
  match o with
  | none => none
  | some s => sGet s job ep
def oWrites : Option SS → Nat
  | none => 0
  | some s => s.writes
section
variable {w0 w : World} {r : List Thing} {sv : Value}
theorem St.soNil (S : St w0 w r) (k : Nat) (hk : r[k]? = some (soT sv none)) : sv = .pointer none := by
  obtain ⟨F, h, _⟩ := S.head k hk
  exact h
theorem St.soSome {s : SS} (S : St w0 w r) (k : Nat) (hk : r[k]? = some (soT sv (some s))) : ∃ g, sv = .pointer (some ⟨g, 0, none⟩) ∧ St w0 w (r.set k (storeT g s)) := by
  obtain ⟨F, ⟨g, e, h⟩, hu⟩ := S.step k hk
  exact ⟨g, e, hu w (storeT g s) F h (Touch.refl _ _) (fun b hb => .inl hb)⟩
theorem St.soMk {s : SS} {g : Nat} (S : St w0 w r) (k : Nat) (hk : r[k]? = some (storeT g s)) : St w0 w (r.set k (soT (.pointer (some ⟨g, 0, none⟩)) (some s))) :=
  S.turn k hk (fun F h => ⟨g, rfl, h⟩)
theorem St.soNew (S : St w0 w r) : St w0 w (r ++ [soT (.pointer none) none]) := S.pushOld (y := soT (.pointer none) none) ⟨rfl, fun b hb => hb⟩
theorem soStage (S : St w0 w r) (k : Nat) {o : Option SS} (hk : r[k]? = some (soT sv o)) (hw : oWrites o ≤ 1000000) (term jb ep : Int) (a : Option Addr) (b : List UInt8) (n cap : Nat) (hn : b.length = n) (hm : n ≤ 140737488355328) (hnil : a = none → cap = 0) (hA : At w a b) :
    Calls Try.prog 27 #[sv, .int .i64 term, .int .i64 jb, .int .i64 ep, .slice a n cap] w fun e w' => e = .returned (.int .i64 (oStage o term jb ep b).1) ∧ St w0 w' (r.set k (soT sv (oStage o term jb ep b).2)) := by
  cases o with
  | none =>
    obtain rfl := S.soNil k hk
    refine (njStage term jb ep a n cap w).mono ?_
    rintro e w1 ⟨rfl, rfl⟩
    exact ⟨rfl, by rw [show (oStage none term jb ep b).2 = none from rfl, set_same hk]; exact S⟩
  | some s =>
    have hkl := (List.getElem?_eq_some_iff.1 hk).1
    obtain ⟨g, rfl, S1⟩ := S.soSome k hk
    refine (stStage_any S1 k (by rw [List.getElem?_set_self hkl]) hw term jb ep a b n cap hn hm hnil hA).mono ?_
    rintro e w1 ⟨rfl, S2⟩
    rw [List.set_set] at S2
    have S3 := S2.soMk k (by rw [List.getElem?_set_self hkl])
    rw [List.set_set] at S3
    exact ⟨rfl, S3⟩
theorem soGet (S : St w0 w r) (k : Nat) {o : Option SS} (hk : r[k]? = some (soT sv o)) (n ep : Int) :
    Calls Try.prog 61 #[sv, .int .i64 n, .int .i64 ep] w fun e w' => SGPost w (oGet o n ep) e w' := by
  cases o with
  | none =>
    obtain rfl := S.soNil k hk
    refine (njGet n ep w).mono ?_
    rintro e w1 ⟨rfl, rfl⟩
    exact ⟨none, 0, rfl, Own.nil _ _, Below.refl _ _⟩
  | some s =>
    have hkl := (List.getElem?_eq_some_iff.1 hk).1
    obtain ⟨g, rfl, S1⟩ := S.soSome k hk
    exact stGet_any S1 k (by rw [List.getElem?_set_self hkl]) n ep
end
end Go.Proofs.Ytilobmefomoemaa
