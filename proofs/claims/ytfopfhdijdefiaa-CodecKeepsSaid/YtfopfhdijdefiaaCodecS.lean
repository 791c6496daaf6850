/- The reference's Unsigned and One (a signed number), and a loop that changes the bytes of a row. -/
import Derived.Test.YtfopfhdijdefiaaReadQ
import Derived.Test.YtfopfhdijdefiaaCodecX
namespace Go.Proofs.Ytfopfhdijdefiaa
open Go.RowKit

set_option maxHeartbeats 400000 in
theorem Unsigned_any (u : Nat) (w : World) (h : u < 18446744073709551616) :
    Calls Try.prog 44 #[.int .u64 u] w fun e w' => e = .returned (.int .i64 (unzig u)) ∧ w = w' := by
  rcases Nat.mod_two_eq_zero_or_one u with h2 | h2
  · have hq : ((u : Int) % 2 == 0) = true := beq_iff_eq.2 (by omega)
    rw [show unzig u = (u : Int) / 2 by rw [unzig_even _ h2]; omega]
    clear h2
    go_enter Try.func44, Try.ntmps44
    go_wp2
    go_ret
    exact ⟨rfl, rfl⟩
  · have hq : ((u : Int) % 2 == 0) = false := beq_eq_false_iff_ne.2 (by omega)
    rw [show unzig u = -((u : Int) / 2) - 1 by rw [unzig_odd _ h2]; omega]
    clear h2
    go_enter Try.func44, Try.ntmps44
    go_wp2
    go_ret
    exact ⟨rfl, rfl⟩

def OnePost (w : World) (l : List UInt8) (e : Ending) (w' : World) : Prop :=
  e = .returned (.tuple #[.agg #[.int .u8 1, .int .i64 (pSigned l).1, .bool false, .string ⟨#[]⟩, .int .i64 0], .int .i64 ((pSigned l).2.1 : Nat), .int .i64 (pSigned l).2.2]) ∧ Fr Nothing w w'

set_option maxRecDepth 100000 in
set_option maxHeartbeats 1000000 in
theorem One_signed (A : Option Addr) (n c : Nat) (l : List UInt8) (w : World) (S : Nat → Prop) (hr : Rd w S 1 A n (l.map bv)) (hn : n ≤ 1099511627776) :
    Calls Try.prog 22 #[.slice A n c, .agg #[.int .u8 1, .int .i64 0, .bool false, .string ⟨#[]⟩, .int .i64 0]] w (OnePost w l) := by
  have HG := Lib.hid (fun w' (h : Fr Nothing w w') => groups_any A n c l 10 w' S (hr.fr0 h) hn (by omega) (by omega))
  have hb9 := pn_lt l 10 (by omega)
  clear hr
  unfold OnePost pSigned
  generalize (pn l 10).1 = a1 at HG hb9 ⊢
  generalize (pn l 10).2.1 = a2 at HG ⊢
  generalize (pn l 10).2.2 = a3 at HG ⊢
  go_enter Try.func22, Try.ntmps22
  go_wp2_with fail
  refine (HG.out _ ?hfr).mono ?_
  case hfr => exact (((Fr.refl _ _).alloc _).alloc _).alloc _
  rintro e w1 ⟨rfl, rfl⟩
  go_wp2_with fail
  refine (Unsigned_any a1 _ hb9).mono ?_
  rintro e w1 ⟨rfl, rfl⟩
  go_wp2
  exact bodyPost_ret (v := .tuple #[.agg #[.int .u8 1, .int .i64 (unzig a1), .bool false, .string ⟨#[]⟩, .int .i64 0], .int .i64 a2, .int .i64 a3]) (by simp [results, Try.results22, go_sem]) rfl ⟨rfl, (((Fr.refl _ _).alloc _).alloc _).alloc _⟩
end Go.Proofs.Ytfopfhdijdefiaa
