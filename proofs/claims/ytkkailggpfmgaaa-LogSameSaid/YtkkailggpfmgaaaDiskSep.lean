/- Disks among other things, and what their methods say of one of them. -/
import Derived.Test.YtkkailggpfmgaaaDiskWrite
import Derived.Test.YtkkailggpfmgaaaDiskDone
import Derived.Test.YtkkailggpfmgaaaSt
namespace Go.Proofs.Ytkkailggpfmgaaa
set_option linter.unusedVariables false
set_option linter.unusedSimpArgs false
open Go.RowKit

theorem IsDisk.low {w : World} {B : Nat} {F : Nat → Prop} {p : Value} {d : DSt} (h : IsDisk w B F p d) : (∀ b, F b → B ≤ b ∧ b < w.heap.size) ∧ B ≤ w.heap.size := by
  obtain ⟨g, gl, vw, ws, rfl, h⟩ := h
  have := h.low g h.foot.1
  exact ⟨h.low, by omega⟩

theorem write_any {w : World} {B : Nat} {F : Nat → Prop} {p : Value} {d : DSt} (h : IsDisk w B F p d) (at_ : Int) (a : Option Addr) (l : List UInt8) (n cap : Nat) (hn : l.length = n) (hm : n ≤ 140737488355328)
    (hw : d.waits.length ≤ 1000000) (hnil : a = none → cap = 0) (hA : At w a l) :
    Calls Try.prog 50 #[p, .int .i64 at_, .slice a n cap] w fun e w' => e = .returned (.int .i64 (d.can at_ n)) ∧
      ∃ F', IsDisk w' B F' p (d.write at_ l) ∧ Touch F w w' ∧ ∀ b, F' b → F b ∨ w.heap.size ≤ b := by
  by_cases hc : d.can at_ n = 0
  · have hc' := hc
    unfold DSt.can at hc'
    by_cases h0 : at_ < 0
    · rw [if_pos h0] at hc'; cases hc'
    rw [if_neg h0] at hc'
    by_cases h1 : (n : Int) > d.lasts.length ∨ at_ > (d.lasts.length : Int) - n
    · rw [if_pos h1] at hc'; cases hc'
    obtain ⟨k, rfl⟩ := Int.eq_ofNat_of_zero_le (show 0 ≤ at_ by omega)
    have e : d.write (k : Int) l = { d with waits := d.waits ++ [(k, l)] } := by
      unfold DSt.write; rw [hn, if_pos hc]; rfl
    rw [hc, e]
    exact write_yes h k a l n cap hn (by omega) hw hnil hA
  · refine (write_no h at_ a n cap hc hm).mono ?_
    rintro e w' ⟨rfl, rfl⟩
    have e : d.write at_ l = d := by unfold DSt.write; rw [hn, if_neg hc]
    rw [e]
    exact ⟨rfl, F, h, Touch.refl _ _, fun b hb => .inl hb⟩

theorem IsDisk.base {w : World} {B C : Nat} {F : Nat → Prop} {p : Value} {d : DSt} (h : IsDisk w B F p d) (hC : C ≤ B) : IsDisk w C F p d := by
  obtain ⟨g, gl, vw, ws, e, k⟩ := h
  exact ⟨g, gl, vw, ws, e, ⟨k.blk, k.las, k.wts.base hC, k.len, fun i h1 h2 => ⟨(k.each i h1 h2).1, (ownB _ _ _ _).1 (((ownB _ _ _ _).2 (k.each i h1 h2).2.1).base hC), (k.each i h1 h2).2.2⟩, k.fit, k.big, k.ne, k.foot, fun b hb => ⟨Nat.le_trans hC (k.low b hb).1, (k.low b hb).2⟩⟩⟩
/-- A disk. -/
def diskT (p : Value) (d : DSt) : Thing where
  lies := fun w B F => IsDisk w B F p d
  touch := fun h ht _ hM => h.touch ht hM
  low := fun h => h.low.1

section
variable {w0 w : World} {r : List Thing} {p : Value} {d : DSt}
theorem hwrite (S : St w0 w r) (k : Nat) (hk : r[k]? = some (diskT p d)) (at_ : Int) (a : Option Addr) (l : List UInt8) (n cap : Nat) (c : Int) (hc : d.can at_ n = c) (hn : l.length = n) (hm : n ≤ 140737488355328)
    (hw : d.waits.length ≤ 1000000) (hnil : a = none → cap = 0) (hA : At w a l) :
    Calls Try.prog 50 #[p, .int .i64 at_, .slice a n cap] w fun e w' => e = .returned (.int .i64 c) ∧ St w0 w' (r.set k (diskT p (d.write at_ l))) := by
  subst hc
  obtain ⟨F, h1, h2⟩ := S.step k hk
  refine (write_any h1 at_ a l n cap hn hm hw hnil hA).mono ?_
  rintro e w' ⟨rfl, F', k1, k2, k3⟩
  exact ⟨rfl, h2 w' (diskT p (d.write at_ l)) F' k1 k2 k3⟩
theorem hcrash (S : St w0 w r) (k : Nat) (hk : r[k]? = some (diskT p d)) (keep : Int) (hk0 : -9223372036854775808 ≤ keep) (hk1 : keep ≤ 9223372036854775807) (hw : d.waits.length ≤ 1000000) :
    Calls Try.prog 19 #[p, .int .i64 keep] w fun e w' => e = .returned (.tuple #[]) ∧ St w0 w' (r.set k (diskT p (d.crash keep))) := by
  obtain ⟨F, h1, h2⟩ := S.step k hk
  refine (crash_any h1 keep hk0 hk1 hw).mono ?_
  rintro e w' ⟨rfl, k1, k2⟩
  exact ⟨rfl, h2 w' (diskT p (d.crash keep)) F k1 k2 (fun b hb => .inl hb)⟩
theorem hsync (S : St w0 w r) (k : Nat) (hk : r[k]? = some (diskT p d)) (hw : d.waits.length ≤ 1000000) (hs : d.syncs < 1000000000) :
    Calls Try.prog 45 #[p] w fun e w' => e = .returned (.tuple #[]) ∧ St w0 w' (r.set k (diskT p d.sync)) := by
  obtain ⟨F, h1, h2⟩ := S.step k hk
  refine (sync_any h1 hw hs).mono ?_
  rintro e w' ⟨rfl, k1, k2⟩
  exact ⟨rfl, h2 w' (diskT p d.sync) F k1 k2 (fun b hb => .inl hb)⟩
theorem St.disk (S : St w0 w r) (k : Nat) (hk : r[k]? = some (diskT p d)) : (∀ x ∈ d.waits, x.1 + x.2.length ≤ d.lasts.length) ∧ 1 ≤ d.lasts.length ∧ d.lasts.length ≤ 65536 ∧ d.bytes.length = d.lasts.length := by
  obtain ⟨F, g, gl, vw, ws, e, h⟩ := S.head k hk
  exact ⟨h.fit, h.big.1, h.big.2, dAll_len _ _ h.fit⟩
theorem hbytes (S : St w0 w r) (k : Nat) (hk : r[k]? = some (diskT p d)) (hw : d.waits.length ≤ 1000000) (n : Nat) (hn : d.bytes.length = n) :
    Calls Try.prog 35 #[p] w fun e w' => ∃ a c, e = .returned (.slice a n c) ∧ St w0 w' (r ++ [bytesT (.slice a n c) d.bytes]) ∧ Below w.heap.size w w' := by
  obtain ⟨F, h1⟩ := S.head k hk
  refine (dbytes_any h1 hw).mono ?_
  rintro e w' ⟨v, rfl, k1, k2⟩
  obtain ⟨a, c, rfl⟩ := k1.written hn
  exact ⟨a, c, rfl, S.bytes k1 k2, k2⟩
theorem hwaits (S : St w0 w r) (k : Nat) (hk : r[k]? = some (diskT p d)) (hw : d.waits.length ≤ 1000000) (n : Int) (hn : (dWaits d.waits : Int) = n) :
    Calls Try.prog 37 #[p] w fun e w' => e = .returned (.int .i64 n) ∧ St w0 w' r ∧ Below w.heap.size w w' := by
  subst hn
  obtain ⟨F, h1⟩ := S.head k hk
  refine (waits_any h1 hw).mono ?_
  rintro e w' ⟨rfl, k2⟩
  exact ⟨rfl, S.grow k2, k2⟩
theorem hsize (S : St w0 w r) (k : Nat) (hk : r[k]? = some (diskT p d)) (n : Int) (hn : (d.lasts.length : Int) = n) :
    Calls Try.prog 46 #[p] w fun e w' => e = .returned (.int .i64 n) ∧ w = w' := by
  subst hn
  obtain ⟨F, h1⟩ := S.head k hk
  exact (size_any h1).mono fun e w' h => ⟨h.1, h.2.symm⟩
theorem hnew (S : St w0 w r) (n : Nat) (h1 : 1 ≤ n) (h2 : n ≤ 65536) :
    Calls Try.prog 14 #[.int .i64 n] w fun e w' => ∃ p, e = .returned p ∧ St w0 w' (r ++ [diskT p (DSt.new n)]) ∧ Below w.heap.size w w' := by
  refine (new_yes n h1 h2 w).mono ?_
  rintro e w' ⟨p, F, rfl, k1, k2⟩
  exact ⟨p, rfl, S.push k2 (y := diskT p (DSt.new n)) (k1.base S.size) (fun b hb => (k1.low.1 b hb).1), k2⟩
end

end Go.Proofs.Ytkkailggpfmgaaa
