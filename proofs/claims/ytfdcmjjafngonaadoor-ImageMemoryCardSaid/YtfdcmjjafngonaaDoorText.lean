/- The reference's Text (as in XCodecR, for seats without the values). -/
import Derived.Test.YtfdcmjjafngonaaDoorCodecC
namespace Go.Proofs.YtfdcmjjafngonaaDoor
open Go.RowKit

theorem strL_snoc (s : ByteArray) (k : Nat) (h : k < s.size) : (strL s).take (k + 1) = (strL s).take k ++ [s[k]] := by
  unfold strL
  rw [List.take_succ_eq_append_getElem (by simpa using h)]; rfl

def textK (s : ByteArray) (k : Nat) : List UInt8 := enc s.size ++ (strL s).take k
def textL (s : ByteArray) : List UInt8 := enc s.size ++ strL s

set_option maxRecDepth 100000 in
set_option maxHeartbeats 1000000 in
theorem refText_any (s : ByteArray) (w : World) (hs : s.size ≤ 1099511627776) :
    Calls Tryd.prog 39 #[.string s] w (SomeGrewB w (.slice none 0 0) (textL s)) := by
  obtain ⟨i0, hi, hz0, hz1, hz2⟩ := info_parts info_u8
  go_enter Tryd.func39, Tryd.ntmps39
  go_wp2_with fail
  refine (Natural_any s.size _ (by omega)).mono ?_
  rintro e w1 ⟨v1, rfl, hg1⟩
  have HG := Lib.hid hg1
  clear hg1
  go_wp2
  go_loopw [3, 4] (fun v' i wr => ∃ k : Nat, k ≤ s.size ∧ i = .int .i64 k ∧ GrewB w (.slice none 0 0) wr v' (textK s k)) (fun _ i _ => s.size - (intOf i).toNat)
  case atStart => exact ⟨0, Nat.zero_le _, rfl, by simpa [textK] using HG.out⟩
  case round =>
    obtain ⟨k, hk, rfl, hf⟩ := hrel
    have HF := Lib.hid hf
    clear hf HG
    by_cases hlt : k < s.size
    · have HT := Lib.hid (strL_snoc s k hlt)
      have hkl : (textK s k).length ≤ 10 + k := by have := enc_length s.size; simp [textK]; omega
      go_wp2_with (at_builtin; refine wpList_app1 _ rfl _ _ 42 rfl 5 i0 _ 1 1 Tryd.underlying42 hi hz0 hz1 hz2 rfl (by omega) _ _ _ rfl HF.out.own 1 _ _ rfl rfl rfl ?c1 ?c2 (by omega) ?_)
      case c1 => simp [Value.oneCell']
      case c2 => omega
      intro v2 w2 hg2
      have HG : Hid (GrewB w (.slice none 0 0) w2 v2 (textK s (k + 1))) := by
        have := HF.out.trans hg2
        simp only [Hid, textK]
        rw [HT.out, ← List.append_assoc]
        simp only [GrewB, List.length_append, List.map_append, List.length_singleton] at this ⊢
        simpa [textK, bv] using this
      clear hg2 HF
      go_wp2
      go_roundw
      case rel => exact ⟨k + 1, by omega, by go_num, HG.out⟩
      case measure => simp [intOf]; omega
    · have HE : Hid (textK s k = textL s) := by
        simp only [Hid, textK, textL]
        rw [List.take_of_length_le (by rw [strL_length]; omega)]
      go_wp2
      go_ret
      exact ⟨_, rfl, by rw [← HE.out]; exact HF.out⟩

theorem GrewB.app {w w3 w4 : World} {v v3 v4 : Value} {L R : List UInt8} {m : Nat} (h : GrewB w v w3 v3 L) (k : Grew 5 1 w3 v3 w4 v4 (L.length + m) (L.map bv ++ R.map bv)) (hm : m = R.length) : GrewB w v w4 v4 (L ++ R) := by
  subst hm
  have := h.trans k
  simpa [GrewB] using this
end Go.Proofs.YtfdcmjjafngonaaDoor
