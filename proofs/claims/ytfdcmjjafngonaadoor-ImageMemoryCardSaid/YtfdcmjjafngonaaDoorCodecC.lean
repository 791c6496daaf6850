/- Contracts of codec.Writer's methods. -/
import Derived.Test.YtfdcmjjafngonaaDoorCodecB
import Derived.Deep.QuietTactic
import Derived.BigQuiet
namespace Go.Proofs.YtfdcmjjafngonaaDoor
open Go.RowKit

/-- Block g is a Writer that has written l and holds the error f; v is its slice. -/
structure Wr (w : World) (g : Nat) (v : Value) (l : List UInt8) (f : Int) : Prop where
  blk : Blk w g 83 #[v, .int .i64 f]
  own : OwnB w v l

def WrT (g : Nat) (v : Value) : Nat → Prop := fun k => k = g ∨ v.ownBlock = some k

structure WrStep (w : World) (g : Nat) (v : Value) (w' : World) (v' : Value) (st : List UInt8 × Int) : Prop where
  wr : Wr w' g v' st.1 st.2
  fr : Fr (WrT g v) w w'
  lies : ∀ k, v'.ownBlock = some k → v.ownBlock = some k ∨ w.heap.size ≤ k

def WrPost (w : World) (g : Nat) (v : Value) (st : List UInt8 × Int) (e : Ending) (w' : World) : Prop := e = .returned (.tuple #[]) ∧ ∃ v', WrStep w g v w' v' st

section
variable {w w1 w2 : World} {g : Nat} {v v1 v2 : Value} {l : List UInt8} {f : Int} {st st1 st2 : List UInt8 × Int} {T : Nat → Prop}
theorem Wr.far (h : Wr w g v l f) (hf : Fr T w w1) (hT : ∀ k, WrT g v k → ¬ T k) : Wr w1 g v l f :=
  ⟨h.blk.fr hf (hT g (.inl rfl)), own_fr h.own hf (fun k hk => hT k (.inr hk))⟩
theorem WrStep.start (h : Wr w g v l f) : WrStep w g v w v (l, f) := ⟨h, Fr.refl _ _, fun _ hk => .inl hk⟩
theorem WrStep.trans (h : WrStep w g v w1 v1 st1) (k : WrStep w1 g v1 w2 v2 st2) : WrStep w g v w2 v2 st2 :=
  ⟨k.wr, h.fr.then_ k.fr (fun i hi hr => by
      rcases hr with hr | hr
      · exact .inl hr
      · rcases h.lies i hr with h1 | h1
        · exact .inr h1
        · omega),
   fun i hi => by
    rcases k.lies i hi with h1 | h1
    · exact h.lies i h1
    · exact .inr (Nat.le_trans h.fr.size h1)⟩
/-- What an append to the slice, stored back, does. -/
theorem WrStep.store (h : Wr w g v l f) {l' : List UInt8} (k : GrewB w v w1 v1 l') : WrStep w g v (w1.setCell ⟨g, 0, none⟩ v1) v1 (l', f) := by
  have hne : v.ownBlock ≠ some g := own_blk_ne h.own h.blk (by decide)
  have hb1 : Blk w1 g 83 #[v, .int .i64 f] := h.blk.fr k.fr (fun hr => hne hr)
  have hlt := h.blk.lt
  have hne1 : ∀ i, v1.ownBlock = some i → i ≠ g := fun i hi e => by
    subst e
    rcases k.lies i hi with h1 | h1
    · exact hne h1
    · omega
  refine ⟨⟨by simpa using hb1.set_ 0 v1, own_fr k.own ((Fr.refl (fun k => k = g) w1).setCell (fun _ => rfl) _) (fun i hi => hne1 i hi)⟩, ?_, k.lies⟩
  exact (k.fr.mono (fun i _ hi => .inr hi)).setCell (fun _ => .inl rfl) _
theorem WrStep.fail (h : Wr w g v l f) (f' : Int) : WrStep w g v (w.setCell ⟨g, 1, none⟩ (.int .i64 f')) v (l, f') := by
  have hne : v.ownBlock ≠ some g := own_blk_ne h.own h.blk (by decide)
  refine ⟨⟨by simpa using h.blk.set_ 1 (.int .i64 f'), own_fr h.own ((Fr.refl (fun k => k = g) w).setCell (fun _ => rfl) _) (fun i hi e => hne (e ▸ hi))⟩, ?_, fun _ hk => .inl hk⟩
  exact (Fr.refl _ _).setCell (fun _ => .inl rfl) _
end

def zig (n : Int) : Nat := if n < 0 then (2 * (-n - 1) + 1).toNat else (2 * n).toNat
def strL (s : ByteArray) : List UInt8 := s.data.toList

theorem zig_pos (n : Int) (h : 0 ≤ n) : n * 2 = ((zig n : Nat) : Int) := by
  unfold zig
  rw [if_neg (by omega)]
  omega

theorem nat_not64 (a : Nat) (ha : a < 18446744073709551616) : 18446744073709551615 ^^^ a = 18446744073709551615 - a := by
  have h1 : (BitVec.allOnes 64 ^^^ BitVec.ofNat 64 a).toNat = (~~~ (BitVec.ofNat 64 a)).toNat := by rw [BitVec.allOnes_xor]
  rw [BitVec.toNat_not, BitVec.toNat_xor, BitVec.toNat_allOnes, BitVec.toNat_ofNat, Nat.mod_eq_of_lt (by simpa using ha)] at h1
  simpa using h1

theorem zig_neg (n : Int) (h : n < 0) (h2 : -9223372036854775808 ≤ n) : bits .xor .u64 IntKind.u64.max (IntKind.u64.wrap (IntKind.u64.wrap n * 2)) = ((zig n : Nat) : Int) := by
  have e1 : IntKind.u64.wrap (IntKind.u64.wrap n * 2) = 2 * n + 18446744073709551616 := by
    simp only [IntKind.wrap, IntKind.bits, IntKind.signed]
    simp
    omega
  have e2 : IntKind.u64.max = 18446744073709551615 := by decide
  rw [e1, e2, u64_xor _ _ (by omega) (by omega) (by omega) (by omega)]
  have e3 : (2 * n + 18446744073709551616).toNat < 18446744073709551616 := by omega
  have e4 := nat_not64 _ e3
  have e5 : (18446744073709551615 : Int).toNat = 18446744073709551615 := by decide
  rw [e5, e4]
  unfold zig
  rw [if_pos h]
  omega

theorem zig_lt (n : Int) (h : n ≤ 9223372036854775807) (h2 : -9223372036854775808 ≤ n) : zig n < 18446744073709551616 := by
  unfold zig
  split <;> omega

def wNumber (st : List UInt8 × Int) (n : Int) : List UInt8 × Int := if st.2 = 0 then (if n < 0 then (st.1, 2) else (st.1 ++ enc n.toNat, 0)) else st
theorem wNumber_pos (l : List UInt8) (u : Nat) : wNumber (l, 0) (u : Int) = (l ++ enc u, 0) := by
  unfold wNumber
  rw [if_pos rfl, if_neg (by omega)]
  rfl
def wSigned (st : List UInt8 × Int) (n : Int) : List UInt8 × Int := if st.2 = 0 then (st.1 ++ enc (zig n), 0) else st
def wFlag (st : List UInt8 × Int) (b : Bool) : List UInt8 × Int := if st.2 = 0 then (st.1 ++ [if b then 1 else 0], 0) else st
def wText (st : List UInt8 × Int) (s : List UInt8) : List UInt8 × Int := if st.2 = 0 then (if 16777216 < s.length then (st.1, 5) else (st.1 ++ (enc s.length ++ s), 0)) else st

theorem strL_length (s : ByteArray) : (strL s).length = s.size := by simp [strL]
theorem strCells_bv (s : ByteArray) : Lib.strCells s = (strL s).map bv := rfl
theorem wText_big (l : List UInt8) (s : ByteArray) (h : 16777216 < s.size) : wText (l, 0) (strL s) = (l, 5) := by
  unfold wText
  rw [if_pos rfl, if_pos (by rw [strL_length]; exact h)]
theorem wText_small (l : List UInt8) (s : ByteArray) (h : ¬ 16777216 < s.size) : wText (l, 0) (strL s) = (l ++ (enc s.size ++ strL s), 0) := by
  unfold wText
  rw [if_pos rfl, if_neg (by rw [strL_length]; exact h), strL_length]

set_option maxHeartbeats 1000000 in
theorem works_any (g : Nat) (v : Value) (f : Int) (w : World) (hb : Blk w g 83 #[v, .int .i64 f]) (B : Bool) (hB : (f == 0) = B) :
    Calls Tryd.prog 53 #[.pointer (some ⟨g, 0, none⟩)] w fun e w' => e = .returned (.bool B) ∧ w = w' := by
  have hc1 : w.cell? ⟨g, 1, none⟩ = some (.int .i64 f) := hb.cell 1
  clear hb
  go_enter Tryd.func53, Tryd.ntmps53
  go_wp2
  go_ret
  exact ⟨rfl, rfl⟩

set_option maxHeartbeats 1000000 in
theorem wNumber_any (g : Nat) (v : Value) (l : List UInt8) (f : Int) (n : Int) (w : World) (h : Wr w g v l f) (hl : l.length ≤ 1099511627776) (hn : n ≤ 9223372036854775807) :
    Calls Tryd.prog 36 #[.pointer (some ⟨g, 0, none⟩), .int .i64 n] w (WrPost w g v (wNumber (l, f) n)) := by
  have HW := Lib.hid h
  have hc0 : w.cell? ⟨g, 0, none⟩ = some v := h.blk.cell 0
  have hc1 : w.cell? ⟨g, 1, none⟩ = some (.int .i64 f) := h.blk.cell 1
  have hf0 := h.blk.frozen 0
  have hf1 := h.blk.frozen 1
  clear h
  by_cases hf : f = 0
  · subst hf
    by_cases hneg : n < 0
    · go_enter Tryd.func36, Tryd.ntmps36
      go_wp2_with fail
      refine (works_any g v 0 _ HW.out.blk true rfl).mono ?_
      rintro e w1 ⟨rfl, rfl⟩
      go_wp2
      go_end0
      exact ⟨rfl, v, by simpa [wNumber, hneg] using WrStep.fail HW.out 2⟩
    · obtain ⟨u, rfl⟩ := Int.eq_ofNat_of_zero_le (by omega : 0 ≤ n)
      go_enter Tryd.func36, Tryd.ntmps36
      go_wp2_with fail
      refine (works_any g v 0 _ HW.out.blk true rfl).mono ?_
      rintro e w1 ⟨rfl, rfl⟩
      go_wp2_with fail
      refine (appendNatural_any v l u _ HW.out.own hl (by omega)).mono ?_
      rintro e w2 ⟨v2, rfl, hg2⟩
      obtain ⟨A2, n2, c2, rfl, _, _⟩ := own_slice hg2.own
      have HS := Lib.hid (WrStep.store HW.out hg2)
      have hff : w2.frozen? ⟨g, 0, none⟩ = false := (Blk.fr HW.out.blk hg2.fr (fun hr => own_blk_ne HW.out.own HW.out.blk (by decide) hr)).frozen 0
      have hcc : w2.cell? ⟨g, 0, none⟩ = some v := (Blk.fr HW.out.blk hg2.fr (fun hr => own_blk_ne HW.out.own HW.out.blk (by decide) hr)).cell 0
      clear hg2
      go_wp2
      go_end0
      exact ⟨rfl, _, by rw [wNumber_pos]; exact HS.out⟩
  · have hfb : (f == 0) = false := beq_eq_false_iff_ne.2 hf
    go_enter Tryd.func36, Tryd.ntmps36
    go_wp2_with fail
    refine (works_any g v f _ HW.out.blk false hfb).mono ?_
    rintro e w1 ⟨rfl, rfl⟩
    go_wp2
    go_end0
    exact ⟨rfl, v, by simpa [wNumber, hf] using WrStep.start HW.out⟩

set_option maxHeartbeats 1000000 in
set_option maxRecDepth 100000 in
theorem wText_any (g : Nat) (v : Value) (l : List UInt8) (f : Int) (s : ByteArray) (w : World) (h : Wr w g v l f) (hl : l.length ≤ 1099511627776) (hs : s.size ≤ 140737488351232) :
    Calls Tryd.prog 35 #[.pointer (some ⟨g, 0, none⟩), .string s] w (WrPost w g v (wText (l, f) (strL s))) := by
  obtain ⟨i0, hi, hz0, hz1, hz2⟩ := info_parts info_u8
  have HW := Lib.hid h
  have hc0 : w.cell? ⟨g, 0, none⟩ = some v := h.blk.cell 0
  have hc1 : w.cell? ⟨g, 1, none⟩ = some (.int .i64 f) := h.blk.cell 1
  have hf1 := h.blk.frozen 1
  clear h
  by_cases hf : f = 0
  · subst hf
    by_cases hbig : 16777216 < s.size
    · go_enter Tryd.func35, Tryd.ntmps35
      go_wp2_with fail
      refine (works_any g v 0 _ HW.out.blk true rfl).mono ?_
      rintro e w1 ⟨rfl, rfl⟩
      go_wp2
      go_end0
      exact ⟨rfl, v, by rw [wText_big _ _ hbig]; exact WrStep.fail HW.out 5⟩
    · go_enter Tryd.func35, Tryd.ntmps35
      go_wp2_with fail
      refine (works_any g v 0 _ HW.out.blk true rfl).mono ?_
      rintro e w1 ⟨rfl, rfl⟩
      go_wp2_with fail
      refine (appendNatural_any v l s.size _ HW.out.own hl (by omega)).mono ?_
      rintro e w2 ⟨v2, rfl, hg2⟩
      have HG := Lib.hid hg2
      clear hg2
      go_wp2_with (at_builtin; refine wpList_app_string _ rfl _ _ 42 9 rfl 5 i0 Tryd.underlying42 Tryd.underlying9 hi hz0 hz1 hz2 _ _ _ rfl HG.out.own s rfl ?c1 ?_)
      case c1 => have := enc_length s.size; simp; omega
      intro v3 w3 hg3
      have hg2 : GrewB w v w3 v3 (l ++ (enc s.size ++ strL s)) := by
        have := HG.out.trans hg3
        rw [strCells_bv] at this
        simpa [GrewB, strL_length, Nat.add_assoc] using this
      clear hg3
      obtain ⟨A2, n2, c2, rfl, _, _⟩ := own_slice hg2.own
      have HS := Lib.hid (WrStep.store HW.out hg2)
      have hff : w3.frozen? ⟨g, 0, none⟩ = false := (Blk.fr HW.out.blk hg2.fr (fun hr => own_blk_ne HW.out.own HW.out.blk (by decide) hr)).frozen 0
      have hcc : w3.cell? ⟨g, 0, none⟩ = some v := (Blk.fr HW.out.blk hg2.fr (fun hr => own_blk_ne HW.out.own HW.out.blk (by decide) hr)).cell 0
      clear hg2
      go_wp2
      go_end0
      exact ⟨rfl, _, by rw [wText_small _ _ hbig]; exact HS.out⟩
  · have hfb : (f == 0) = false := beq_eq_false_iff_ne.2 hf
    go_enter Tryd.func35, Tryd.ntmps35
    go_wp2_with fail
    refine (works_any g v f _ HW.out.blk false hfb).mono ?_
    rintro e w1 ⟨rfl, rfl⟩
    go_wp2
    go_end0
    exact ⟨rfl, v, by simpa [wText, hf] using WrStep.start HW.out⟩

theorem OwnB.rd {w : World} {A : Option Addr} {n c : Nat} {l : List UInt8} (h : OwnB w (.slice A n c) l) (hn : n = l.length) : Rd w (Rows1 (.slice A n c)) 1 A n (l.map bv) := by
  subst hn
  exact Rd.of_own h

/-- A new Writer in block g. -/
def WrNew (w : World) (e : Ending) (w' : World) : Prop := e = .returned (.pointer (some ⟨w.heap.size, 0, none⟩)) ∧ Wr w' w.heap.size (.slice none 0 0) [] 0 ∧ Fr Nothing w w'

set_option maxHeartbeats 1000000 in
theorem NewWriter_any (w : World) : Calls Tryd.prog 34 #[] w (WrNew w) := by
  go_enter Tryd.func34, Tryd.ntmps34
  go_wp2
  go_ret
  exact ⟨rfl, ⟨Blk.new _ _ _, World.ownsRow_nil _ _ _ _⟩, (Fr.refl _ _).alloc _⟩

def BytesPost (w : World) (l : List UInt8) (f : Int) (e : Ending) (w' : World) : Prop :=
  (f ≠ 0 → e = .returned (.tuple #[.slice none 0 0, .int .i64 f]) ∧ Fr Nothing w w') ∧ (f = 0 → SomeApp w (.slice none 0 0) l 0 e w')

set_option maxHeartbeats 1000000 in
theorem wBytes_any (g : Nat) (v : Value) (l : List UInt8) (f : Int) (w : World) (h : Wr w g v l f) (hl : l.length ≤ 1099511627776) :
    Calls Tryd.prog 37 #[.pointer (some ⟨g, 0, none⟩)] w (BytesPost w l f) := by
  have hc0 : w.cell? ⟨g, 0, none⟩ = some v := h.blk.cell 0
  have hc1 : w.cell? ⟨g, 1, none⟩ = some (.int .i64 f) := h.blk.cell 1
  obtain ⟨A2, n2, c2, rfl, H2, _⟩ := own_slice h.own
  have HW := Lib.hid h
  clear h
  by_cases hf : f = 0
  · subst hf
    go_enter Tryd.func37, Tryd.ntmps37
    go_wp2_with fail
    have hr := OwnB.rd HW.out.own H2.out
    refine (Clone_any A2 n2 c2 l _ _ hr (by rw [H2.out]; exact hl)).mono ?_
    rintro e w2 ⟨v2, rfl, hg2⟩
    have HG := Lib.hid hg2
    clear hg2 hr
    go_wp2
    go_ret2
    exact ⟨fun h => absurd rfl h, fun _ => ⟨_, rfl, HG.out⟩⟩
  · have hfb : (f != 0) = true := by rw [bne_iff_ne]; exact hf
    go_enter Tryd.func37, Tryd.ntmps37
    go_wp2
    go_quiet (fail)
    go_wp2
    go_ret2
    exact ⟨fun _ => ⟨rfl, (Fr.refl _ _).drewN _⟩, fun h => absurd h hf⟩

end Go.Proofs.YtfdcmjjafngonaaDoor
