/- The statements of layer 4. -/
import Derived.Test.YtbdclgopdildmaaDiskSep
import Derived.Test.YtbdclgopdildmaaSumRef
namespace Go.Proofs.Ytbdclgopdildmaa
set_option linter.unusedVariables false
set_option linter.unusedSimpArgs false
open Go.RowKit

/-- Are two slices of bytes alike? -/
theorem hcmp {w0 w : World} {r : List Thing} (S : St w0 w r) (t : Bool) (a b : Option Addr) (l m : List UInt8) (n k ca cb : Nat) (ht : (l == m) = t) (hn : l.length = n) (hk : m.length = k) (hl : n ≤ maxLen) (hm : k ≤ maxLen) (hA : At w a l) (hB : At w b m) :
    Calls Try.prog 25 #[.slice a n ca, .slice b k cb] w fun e w' => e = .returned (.bool t) ∧ St w0 w' r ∧ Below w.heap.size w w' := by
  subst ht
  refine (bytes_any a b l m n k ca cb w hn hk hl hm hA hB).mono ?_
  rintro e w' ⟨rfl, n, rfl⟩
  exact ⟨rfl, S.drewN n, below_drewN (Below.refl _ _) n⟩

set_option maxRecDepth 10000 in
set_option maxHeartbeats 1600000 in
theorem alive4_any (w : World) : Calls Try.prog 13 #[] w fun e w' => e = .returned (.bool true) ∧ Below w.heap.size w w' := by
  have X1 : Hid (#[Value.int .u8 1, .int .u8 2].toList = ([1, 2] : List UInt8).map bv) := rfl
  have X2 : Hid (#[Value.int .u8 3, .int .u8 4].toList = ([3, 4] : List UInt8).map bv) := rfl
  have X3 : Hid (#[Value.int .u8 1, .int .u8 3, .int .u8 4, .int .u8 0].toList = ([1, 3, 4, 0] : List UInt8).map bv) := rfl
  have X4 : Hid (#[Value.int .u8 1, .int .u8 3, .int .u8 0, .int .u8 0].toList = ([1, 3, 0, 0] : List UInt8).map bv) := rfl
  have S := St.start w
  go_enter Try.func13, Try.ntmps13
  go_wp2_with fail
  refine (hnew S 4 (by omega) (by omega)).mono ?_
  rintro e w1 ⟨p, rfl, S1, -⟩
  go_wp2_with fail
  refine (hwrite (by exact S1.alloc _) 0 rfl 0 _ [1, 2] 2 2 0 rfl rfl (by omega) (by decide) (fun e => by cases e) (by exact at_lit w1 [1, 2] _ X1.out)).mono ?_
  rintro e w2 ⟨rfl, S2⟩
  go_wp2_with fail
  refine (hsync S2 0 rfl (by decide) (by decide)).mono ?_
  rintro e w3 ⟨rfl, S3⟩
  go_wp2_with fail
  refine (hwrite (by exact S3.alloc _) 0 rfl 1 _ [3, 4] 2 2 0 rfl rfl (by omega) (by decide) (fun e => by cases e) (by exact at_lit w3 [3, 4] _ X2.out)).mono ?_
  rintro e w4 ⟨rfl, S4⟩
  go_wp2_with fail
  refine (hbytes S4 0 rfl (by decide) 4 rfl).mono ?_
  rintro e w5 ⟨a5, c5, rfl, S5, -⟩
  go_wp2_with fail
  refine (hwaits S5 0 rfl (by decide) 2 rfl).mono ?_
  rintro e w6 ⟨rfl, S6, -⟩
  go_wp2_with fail
  refine (hcrash S6 0 rfl 1 (by omega) (by omega) (by decide)).mono ?_
  rintro e w7 ⟨rfl, S7⟩
  go_wp2_with fail
  refine (hcmp (by exact S7.alloc _) true _ _ [1, 3, 4, 0] [1, 3, 4, 0] 4 4 _ _ rfl rfl rfl (by decide) (by decide) (by exact (S7.alloc _).at 1 rfl) (by exact at_lit w7 _ _ X3.out)).mono ?_
  rintro e w8 ⟨rfl, S8, -⟩
  go_wp2_with fail
  refine (hbytes S8 0 rfl (by decide) 4 rfl).mono ?_
  rintro e w9 ⟨a9, c9, rfl, S9, -⟩
  go_wp2_with fail
  refine (hcmp (by exact S9.alloc _) true _ _ [1, 3, 0, 0] [1, 3, 0, 0] 4 4 _ _ rfl rfl rfl (by decide) (by decide) (by exact (S9.alloc _).at 2 rfl) (by exact at_lit w9 _ _ X4.out)).mono ?_
  rintro e w10 ⟨rfl, S10, -⟩
  go_wp2_with fail
  refine (hsyncs S10 0 rfl (by decide) 1 rfl).mono ?_
  rintro e w11 ⟨rfl, rfl⟩
  go_wp2_with fail
  refine (hsize S10 0 rfl 4 rfl).mono ?_
  rintro e w11 ⟨rfl, rfl⟩
  go_wp2_with fail
  refine (hwrite S10 0 rfl 3 _ [1, 3, 4, 0] 4 _ 3 rfl rfl (by omega) (by decide) (by exact (S10.slA 1 rfl).2.2.2.1) (by exact S10.at 1 rfl)).mono ?_
  rintro e w12 ⟨rfl, S12⟩
  go_wp2
  go_ret
  exact ⟨rfl, S12.fin⟩

end Go.Proofs.Ytbdclgopdildmaa
