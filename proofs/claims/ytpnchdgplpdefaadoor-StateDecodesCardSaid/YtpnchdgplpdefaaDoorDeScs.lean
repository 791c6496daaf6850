/- State: the reference's One for texts, and text (written by genScs.py). -/
import Derived.Test.YtpnchdgplpdefaaDoorDeScn
namespace Go.Proofs.YtpnchdgplpdefaaDoor
open Go.RowKit Go.Shelf
def OneT (w : World) (most : Int) (l : List UInt8) (e : Ending) (w' : World) : Prop :=
 e = .returned (.tuple #[.agg #[.int .u8 3, .int .i64 0, .bool false, .string ⟨(pText most l).1.toArray⟩, .int .i64 most], .int .i64 ((pText most l).2.1 : Nat), .int .i64 (pText most l).2.2]) ∧ Fr Nothing w w'
set_option maxRecDepth 100000 in
set_option maxHeartbeats 4000000 in
theorem One_text (A : Option Addr) (n c : Nat) (l : List UInt8) (most : Int) (w : World) (S : Nat → Prop) (hr : Rd w S 1 A n (l.map bv)) (hn : n ≤ 1099511627776) (hnc : n ≤ c) :
  Calls Tryd.prog 95 #[.slice A n c, .agg #[.int .u8 3, .int .i64 0, .bool false, .string ⟨#[]⟩, .int .i64 most]] w (OneT w most l) := by
 have hb9 := pn_lt9 l
 have hsz := (pn_size l 9 (by omega)).2
 have hln : l.length = n := by simpa using hr.1
 have HP := Lib.hid (fun w' (h : Fr Nothing w w') => refParse_any A n c l w' S (hr.fr0 h) hn)
 have HC := Lib.hid (fun w' (h : Fr Nothing w w') a m k => run_cut (a := a) (m := m) (hr.fr0 h) k hnc)
 unfold OneT pText
 generalize (pn l 9).1 = a1 at HP hb9 ⊢
 generalize (pn l 9).2.1 = a2 at HP hsz ⊢
 generalize (pn l 9).2.2 = a3 at HP ⊢
 rw [hln] at hsz ⊢
 clear hr hln
 by_cases h3 : a3 ≠ 0
 ·rw [if_pos h3]
  have h3b : ((a3 : Int) != 0) = true := by rw [bne_iff_ne]; omega
  clear h3
  go_enter Tryd.func95, Tryd.ntmps95
  go_wp2_with fail
  refine (HP.out _ ?hfr1).mono ?_
  case hfr1 => exact (((Fr.refl _ _).alloc _).alloc _).alloc _
  rintro e w1 ⟨rfl, hw⟩
  subst hw
  clear HP HC
  go_wp2
  exact bodyPost_ret (v := .tuple #[.agg #[.int .u8 3, .int .i64 0, .bool false, .string ⟨#[]⟩, .int .i64 most], .int .i64 0, .int .i64 a3]) (by simp [results, Tryd.results95, go_sem]) rfl ⟨rfl, (((Fr.refl _ _).alloc _).alloc _).alloc _⟩
 ·rw [if_neg h3]
  have h30 : a3 = 0 := by omega
  subst h30
  clear h3
  by_cases hm : most < (a1 : Int)
  ·rw [if_pos (.inl hm)]
   go_enter Tryd.func95, Tryd.ntmps95
   go_wp2_with fail
   refine (HP.out _ ?hfr2).mono ?_
   case hfr2 => exact (((Fr.refl _ _).alloc _).alloc _).alloc _
   rintro e w1 ⟨rfl, hw⟩
   subst hw
   clear HP HC
   go_wp2
   exact bodyPost_ret (v := .tuple #[.agg #[.int .u8 3, .int .i64 0, .bool false, .string ⟨#[]⟩, .int .i64 most], .int .i64 0, .int .i64 5]) (by simp [results, Tryd.results95, go_sem]) rfl ⟨rfl, (((Fr.refl _ _).alloc _).alloc _).alloc _⟩
  ·by_cases hm2 : 16777216 < a1
   ·rw [if_pos (.inr hm2)]
    go_enter Tryd.func95, Tryd.ntmps95
    go_wp2_with fail
    refine (HP.out _ ?hfr3).mono ?_
    case hfr3 => exact (((Fr.refl _ _).alloc _).alloc _).alloc _
    rintro e w1 ⟨rfl, hw⟩
    subst hw
    clear HP HC
    go_wp2
    exact bodyPost_ret (v := .tuple #[.agg #[.int .u8 3, .int .i64 0, .bool false, .string ⟨#[]⟩, .int .i64 most], .int .i64 0, .int .i64 5]) (by simp [results, Tryd.results95, go_sem]) rfl ⟨rfl, (((Fr.refl _ _).alloc _).alloc _).alloc _⟩
   ·rw [if_neg (by omega)]
    by_cases hlen : n < a2 + a1
    ·rw [if_pos hlen]
     have t1 : decide ((n : Int) - (a2 : Int) < (a1 : Int)) = true := decide_eq_true (by omega)
     go_enter Tryd.func95, Tryd.ntmps95
     go_wp2_with fail
     refine (HP.out _ ?hfr4).mono ?_
     case hfr4 => exact (((Fr.refl _ _).alloc _).alloc _).alloc _
     rintro e w1 ⟨rfl, hw⟩
     subst hw
     clear HP HC
     go_wp2
     exact bodyPost_ret (v := .tuple #[.agg #[.int .u8 3, .int .i64 0, .bool false, .string ⟨#[]⟩, .int .i64 most], .int .i64 0, .int .i64 28]) (by simp [results, Tryd.results95, go_sem]) rfl ⟨rfl, (((Fr.refl _ _).alloc _).alloc _).alloc _⟩
    ·rw [if_neg hlen]
     have t1 : decide ((n : Int) - (a2 : Int) < (a1 : Int)) = false := decide_eq_false (by omega)
     by_cases hca : c = a2
     ·subst hca
      go_enter Tryd.func95, Tryd.ntmps95
      go_wp2_with fail
      refine (HP.out _ ?hfr5).mono ?_
      case hfr5 => exact (((Fr.refl _ _).alloc _).alloc _).alloc _
      rintro e w1 ⟨rfl, hw⟩
      have hf : Fr Nothing w w1 := by rw [← hw]; exact (((Fr.refl _ _).alloc _).alloc _).alloc _
      have hcv := HC.out w1 hf c a1 (by omega) A (by simp) 0
      clear hf
      subst hw
      clear HP HC
      go_wp2
      exact bodyPost_ret (v := .tuple #[.agg #[.int .u8 3, .int .i64 0, .bool false, .string ⟨((l.drop c).take a1).toArray⟩, .int .i64 most], .int .i64 ((c : Int) + (a1 : Int)), .int .i64 0]) (by simp [results, Tryd.results95, go_sem]) rfl ⟨rfl, (((Fr.refl _ _).alloc _).alloc _).alloc _⟩
     ·go_enter Tryd.func95, Tryd.ntmps95
      go_wp2_with fail
      refine (HP.out _ ?hfr6).mono ?_
      case hfr6 => exact (((Fr.refl _ _).alloc _).alloc _).alloc _
      rintro e w1 ⟨rfl, hw⟩
      have hf : Fr Nothing w w1 := by rw [← hw]; exact (((Fr.refl _ _).alloc _).alloc _).alloc _
      have hcv := HC.out w1 hf a2 a1 (by omega) (A.map (·.add a2)) (by rw [if_neg hca]) (c - a2)
      clear hf
      subst hw
      clear HP HC
      go_wp2
      exact bodyPost_ret (v := .tuple #[.agg #[.int .u8 3, .int .i64 0, .bool false, .string ⟨((l.drop a2).take a1).toArray⟩, .int .i64 most], .int .i64 ((a2 : Int) + (a1 : Int)), .int .i64 0]) (by simp [results, Tryd.results95, go_sem]) rfl ⟨rfl, (((Fr.refl _ _).alloc _).alloc _).alloc _⟩
theorem builtV (most : Int) : Tryd.prog.built 164 [(0, .int .u8 3), (4, .int .i64 most)] = some #[.int .u8 3, .int .i64 0, .bool false, .string ⟨#[]⟩, .int .i64 most] := by kernel_rfl
theorem infoV : (Tryd.prog.info? 164).map (·.size) = some 5 := by kernel_rfl
theorem zvV (w : World) : (zeroValue 164).run Tryd.prog w = .ok (.agg #[.int .u8 0, .int .i64 0, .bool false, .string ⟨#[]⟩, .int .i64 0]) w := by kernel_rfl
def RText (w : World) (at_ : Nat) (most : Int) (l : List UInt8) (e : Ending) (w' : World) : Prop :=
 e = .returned (.tuple #[.string ⟨(pText most l).1.toArray⟩, .int .i64 ((at_ : Int) + ((pText most l).2.1 : Nat)), .int .i64 (pText most l).2.2]) ∧ Fr Nothing w w'
set_option maxRecDepth 100000 in
set_option maxHeartbeats 4000000 in
theorem rtext_any (A : Option Addr) (n c k : Nat) (l : List UInt8) (most : Int) (w : World) (S : Nat → Prop) (hr : Rd w S 1 A n (l.map bv)) (hn : n ≤ 1099511627776) (hnc : n ≤ c) (hk : k ≤ n) :
  Calls Tryd.prog 70 #[.slice A n c, .int .i64 (k : Int), .int .i64 most] w (RText w k most (l.drop k)) := by
 have HB := Lib.hid (builtV most)
 have k1 : (k : Int) ≤ (n : Int) := by omega
 have k2 : (k : Int) ≤ (c : Int) := by omega
 have hln : l.length = n := by simpa using hr.1
 obtain ⟨A', hA'⟩ : ∃ A', A' = if c = k then A else A.map (·.add k) := ⟨_, rfl⟩
 have H1 := Lib.hid (One_text A' (n - k) (c - k) (l.drop k) most w S (by rw [hA']; exact hr.cutB hk hnc) (by omega) (by omega))
 have hps := pText_size most (l.drop k)
 rw [List.length_drop, hln] at hps
 have nk : n - k ≤ 1099511627776 := by omega
 clear hr hln
 unfold RText
 unfold OneT at H1
 generalize (pText most (l.drop k)).2.1 = z at *
 generalize (pText most (l.drop k)).2.2 = ev at *
 generalize (pText most (l.drop k)).1 = tx at *
 by_cases hca : c = k
 ·rw [if_pos hca] at hA'
  subst hA'
  obtain rfl : k = n := by omega
  obtain rfl : c = k := by omega
  rw [Nat.sub_self] at H1
  go_enter Tryd.func70, Tryd.ntmps70
  go_wp2_with fail
  refine (H1.out).mono ?_
  rintro e w1 ⟨rfl, f1⟩
  have F1 := Lib.hid f1
  clear f1 H1 HB
  go_wp2_with (refine wpList_allocBlk rfl 164 rfl _ zvV #[.int .u8 0, .int .i64 0, .bool false, .string ⟨#[]⟩, .int .i64 0] rfl ?_)
  intro w2 n2
  have N2 := Lib.hid n2
  clear n2
  generalize hg : w1.heap.size = g at *
  have HG := Lib.hid hg
  clear hg
  have NB2 : Hid (Blk w2 g 164 #[.int .u8 0, .int .i64 0, .bool false, .string ⟨#[]⟩, .int .i64 0]) := by have h := N2.out.blk; rw [HG.out] at h; exact h
  go_wp2_with (refine wpList_storeBlk rfl 164 (.tmp 9) _ rfl g #[.int .u8 3, .int .i64 0, .bool false, .string ⟨tx.toArray⟩, .int .i64 most] rfl rfl _ _ NB2.out infoV rfl (by simp [Value.oneCell']) ?_)
  intro w3 b3 f3
  have c3 : w3.cell? ⟨g, 3, none⟩ = some (.string ⟨tx.toArray⟩) := b3.cell 3
  have F3 : Hid (Fr Nothing w w3) := (F1.out.trans N2.out.fr).then_ f3 (fun i hi e => by have e' : i = g := e; have := HG.out; have := F1.out.size; omega)
  clear b3 f3 N2 NB2 F1
  go_wp2
  go_ret3
  exact ⟨rfl, F3.out⟩
 ·rw [if_neg hca] at hA'
  subst hA'
  go_enter Tryd.func70, Tryd.ntmps70
  go_wp2_with fail
  refine (H1.out).mono ?_
  rintro e w1 ⟨rfl, f1⟩
  have F1 := Lib.hid f1
  clear f1 H1 HB
  go_wp2_with (refine wpList_allocBlk rfl 164 rfl _ zvV #[.int .u8 0, .int .i64 0, .bool false, .string ⟨#[]⟩, .int .i64 0] rfl ?_)
  intro w2 n2
  have N2 := Lib.hid n2
  clear n2
  generalize hg : w1.heap.size = g at *
  have HG := Lib.hid hg
  clear hg
  have NB2 : Hid (Blk w2 g 164 #[.int .u8 0, .int .i64 0, .bool false, .string ⟨#[]⟩, .int .i64 0]) := by have h := N2.out.blk; rw [HG.out] at h; exact h
  go_wp2_with (refine wpList_storeBlk rfl 164 (.tmp 9) _ rfl g #[.int .u8 3, .int .i64 0, .bool false, .string ⟨tx.toArray⟩, .int .i64 most] rfl rfl _ _ NB2.out infoV rfl (by simp [Value.oneCell']) ?_)
  intro w3 b3 f3
  have c3 : w3.cell? ⟨g, 3, none⟩ = some (.string ⟨tx.toArray⟩) := b3.cell 3
  have F3 : Hid (Fr Nothing w w3) := (F1.out.trans N2.out.fr).then_ f3 (fun i hi e => by have e' : i = g := e; have := HG.out; have := F1.out.size; omega)
  clear b3 f3 N2 NB2 F1
  go_wp2
  go_ret3
  exact ⟨rfl, F3.out⟩
end Go.Proofs.YtpnchdgplpdefaaDoor
