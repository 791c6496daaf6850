/- Contracts of codec.appendNatural, slices.Clone, codec.Append and of the reference's Natural. -/
import Derived.Test.YtfdcmjjafngonaaDoorCodecA
import Derived.Test.YtfdcmjjafngonaaDoorGwA
namespace Go.Proofs.YtfdcmjjafngonaaDoor
open Go.RowKit

theorem info_u8 : (Tryd.prog.info? 5).map (fun i => (i.zero, i.size, i.bytes)) = some (some (.int .u8 0), 1, 1) := by kernel_rfl

theorem oneCell_bv (l : List UInt8) : ∀ u ∈ l.map bv, u.oneCell' = true := by
  intro u hu
  obtain ⟨b, _, rfl⟩ := List.mem_map.1 hu
  rfl

theorem bv_ofNat (n : Nat) (h : n < 256) : bv (b8 n) = .int .u8 (n : Int) := by
  unfold bv b8
  rw [UInt8.toNat_ofNat_of_lt' (by simpa using h)]

/-- A row of bytes. -/
abbrev GrewB (w : World) (v : Value) (w' : World) (v' : Value) (l : List UInt8) : Prop := Grew 5 1 w v w' v' l.length (l.map bv)
abbrev OwnB (w : World) (v : Value) (l : List UInt8) : Prop := w.ownsRow 0 5 1 v l.length (l.map bv)

def SomeGrewB (w : World) (v : Value) (l : List UInt8) (e : Ending) (w' : World) : Prop := ∃ v', e = .returned v' ∧ GrewB w v w' v' l

set_option maxRecDepth 100000 in
set_option maxHeartbeats 1000000 in
theorem appendNatural_any (v : Value) (l : List UInt8) (u : Nat) (w : World) (hown : OwnB w v l) (hl : l.length ≤ 1099511627776) (hu : u < 18446744073709551616) :
    Calls Tryd.prog 54 #[v, .int .u64 u] w (SomeGrewB w v (l ++ enc u)) := by
  obtain ⟨i0, hi, hz0, hz1, hz2⟩ := info_parts info_u8
  have HO := Lib.hid hown
  clear hown
  go_enter Tryd.func54, Tryd.ntmps54
  go_wp2
  go_loopw [0, 1] (fun v' t wr => ∃ (x : Nat) (l' : List UInt8), x < 18446744073709551616 ∧ t = .int .u64 x ∧ Hid (enc u = l' ++ enc x) ∧ GrewB w v wr v' (l ++ l')) (fun _ t _ => (intOf t).toNat)
  case atStart => exact ⟨u, [], hu, rfl, rfl, by simpa using Grew.start HO.out⟩
  case round =>
    obtain ⟨x, l', hx, rfl, HE, hg⟩ := hrel
    by_cases hx8 : 128 ≤ x
    · go_wp2_with (at_builtin; refine wpList_app1 _ rfl _ _ 42 rfl 5 i0 _ 1 1 Tryd.underlying42 hi hz0 hz1 hz2 rfl (by omega) _ _ _ rfl hg.own 1 _ _ rfl rfl rfl ?c1 ?c2 (by omega) ?_)
      case c1 => simp [Value.oneCell']
      case c2 => have := enc_length u; rw [HE.out] at this; simp at this ⊢; omega
      intro v2 w2 hg2
      rw [more_or] at hg2
      have HG : Hid (GrewB w v w2 v2 (l ++ (l' ++ [b8 (x % 128 + 128)]))) := by
        have := hg.trans hg2
        simpa [Hid, GrewB, bv_ofNat _ (show x % 128 + 128 < 256 by omega), Nat.add_assoc] using this
      clear hg hg2
      rw [more_or]
      go_wp2
      go_roundw
      case rel => exact ⟨x / 128, _, by omega, by go_num, by simp only [Hid]; rw [HE.out, enc_step hx8 hx]; simp, HG.out⟩
      case measure => simp [intOf]; omega
    · go_wp2_with (at_builtin; refine wpList_app1 _ rfl _ _ 42 rfl 5 i0 _ 1 1 Tryd.underlying42 hi hz0 hz1 hz2 rfl (by omega) _ _ _ rfl hg.own 1 _ _ rfl rfl rfl ?d1 ?d2 (by omega) ?_)
      case d1 => simp [Value.oneCell']
      case d2 => have := enc_length u; rw [HE.out] at this; simp at this ⊢; omega
      intro v2 w2 hg2
      have HG : Hid (GrewB w v w2 v2 (l ++ enc u)) := by
        have := hg.trans hg2
        have e : (x : Int) % 256 = (x : Int) := by omega
        rw [HE.out, enc_small (by omega)]
        simpa [Hid, GrewB, bv_ofNat _ (show x < 256 by omega), Nat.add_assoc, e] using this
      clear hg hg2
      go_wp2
      go_ret
      exact ⟨_, rfl, HG.out⟩

set_option maxRecDepth 100000 in
set_option maxHeartbeats 1000000 in
theorem Natural_any (u : Nat) (w : World) (hu : u < 18446744073709551616) :
    Calls Tryd.prog 40 #[.int .u64 u] w (SomeGrewB w (.slice none 0 0) (enc u)) := by
  obtain ⟨i0, hi, hz0, hz1, hz2⟩ := info_parts info_u8
  go_enter Tryd.func40, Tryd.ntmps40
  go_wp2
  go_loopw [0, 3] (fun t v' wr => ∃ (x : Nat) (l' : List UInt8), x < 18446744073709551616 ∧ t = .int .u64 x ∧ Hid (enc u = l' ++ enc x) ∧ GrewB w (.slice none 0 0) wr v' l') (fun t _ _ => (intOf t).toNat)
  case atStart => exact ⟨u, [], hu, rfl, rfl, Grew.start (World.ownsRow_nil _ _ _ _)⟩
  case round =>
    obtain ⟨x, l', hx, rfl, HE, hg⟩ := hrel
    by_cases hx8 : 128 ≤ x
    · go_wp2_with (at_builtin; refine wpList_app1 _ rfl _ _ 42 rfl 5 i0 _ 1 1 Tryd.underlying42 hi hz0 hz1 hz2 rfl (by omega) _ _ _ rfl hg.own 1 _ _ rfl rfl rfl ?c1 ?c2 (by omega) ?_)
      case c1 => simp [Value.oneCell']
      case c2 => have := enc_length u; rw [HE.out] at this; simp at this ⊢; omega
      intro v2 w2 hg2
      have HG : Hid (GrewB w (.slice none 0 0) w2 v2 (l' ++ [b8 (x % 128 + 128)])) := by
        have := hg.trans hg2
        have e : (x : Int) % 128 + 128 = ((x % 128 + 128 : Nat) : Int) := by omega
        simpa [Hid, GrewB, bv_ofNat _ (show x % 128 + 128 < 256 by omega), Nat.add_assoc] using this
      clear hg hg2
      go_wp2
      go_roundw
      case rel => exact ⟨x / 128, _, by omega, by go_num, by simp only [Hid]; rw [HE.out, enc_step hx8 hx]; simp, HG.out⟩
      case measure => simp [intOf]; omega
    · go_wp2_with (at_builtin; refine wpList_app1 _ rfl _ _ 42 rfl 5 i0 _ 1 1 Tryd.underlying42 hi hz0 hz1 hz2 rfl (by omega) _ _ _ rfl hg.own 1 _ _ rfl rfl rfl ?d1 ?d2 (by omega) ?_)
      case d1 => simp [Value.oneCell']
      case d2 => have := enc_length u; rw [HE.out] at this; simp at this ⊢; omega
      intro v2 w2 hg2
      have HG : Hid (GrewB w (.slice none 0 0) w2 v2 (enc u)) := by
        have := hg.trans hg2
        have e : (x : Int) % 256 = (x : Int) := by omega
        rw [HE.out, enc_small (by omega)]
        simpa [Hid, GrewB, bv_ofNat _ (show x < 256 by omega), Nat.add_assoc, e] using this
      clear hg hg2
      go_wp2
      go_ret
      exact ⟨_, rfl, HG.out⟩

set_option maxHeartbeats 1000000 in
theorem Clone_any (A : Option Addr) (n c : Nat) (l : List UInt8) (w : World) (S : Nat → Prop) (hr : Rd w S 1 A n (l.map bv)) (hn : n ≤ 1099511627776) :
    Calls Tryd.prog 55 #[.slice A n c] w (SomeGrewB w (.slice none 0 0) l) := by
  obtain ⟨i0, hi, hz0, hz1, hz2⟩ := info_parts info_u8
  have hq := fun (w : World) => Lib.run_eql_slice_nil (P := Tryd.prog) w 42 5 A n c 0 0 Tryd.underlying42
  have hlen : l.length = n := by have := hr.1; simpa using this
  have HL := Lib.hid hlen
  clear hlen
  rcases A with _ | ad
  · have hn0 : n = 0 := by
      rcases Nat.eq_zero_or_pos n with h | h
      · exact h
      · obtain ⟨ad, e, _⟩ := hr.2 h
        cases e
    have hl0 : l = [] := List.eq_nil_of_length_eq_zero (by rw [HL.out]; exact hn0)
    subst hl0
    subst hn0
    clear hr
    go_enter Tryd.func55, Tryd.ntmps55
    go_wp2
    go_ret
    exact ⟨_, rfl, Grew.start (World.ownsRow_nil _ _ _ _)⟩
  · go_enter Tryd.func55, Tryd.ntmps55
    go_wp2_with (at_builtin; refine wpList_app _ rfl _ _ 42 rfl 5 i0 _ 1 1 Tryd.underlying42 hi hz0 hz1 hz2 rfl (by omega) _ 0 [] rfl ?c1 _ _ n c _ rfl (hr.fr0 ((Fr.refl _ _).alloc _)) (oneCell_bv _) (by omega) (by omega) ?_)
    case c1 => exact World.ownsRow_lit (size := 1) _ _ 0 (Nat.zero_le _) (by simp [maxLen]) rfl
    intro v2 w2 hg2
    have HG : Hid (GrewB w (.slice none 0 0) w2 v2 l) := by
      have := Grew.fresh ((Fr.refl _ _).alloc _) (fun k hk => by simp [Value.ownBlock] at hk; omega) hg2
      have e := HL.out
      simpa [Hid, GrewB, e] using this
    clear hg2
    go_wp2
    go_ret
    exact ⟨_, rfl, HG.out⟩

def SomeApp (w : World) (v : Value) (l : List UInt8) (err : Int) (e : Ending) (w' : World) : Prop := ∃ v', e = .returned (.tuple #[v', .int .i64 err]) ∧ GrewB w v w' v' l

end Go.Proofs.YtfdcmjjafngonaaDoor
