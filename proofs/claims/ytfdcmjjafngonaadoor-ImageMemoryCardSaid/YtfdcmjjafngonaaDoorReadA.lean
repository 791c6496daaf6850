/- codec.Reader: its blocks, and read[T] over whatever parser. -/
import Derived.Test.YtfdcmjjafngonaaDoorCodecF
namespace Go.Proofs.YtfdcmjjafngonaaDoor
open Go.RowKit

/-- Block g is a Reader that has l left, has read p bytes and holds the error f; its bytes lie in blocks of S. -/
structure Rr (w : World) (g : Nat) (S : Nat → Prop) (l : List UInt8) (p : Nat) (f : Int) : Prop where
  ex : ∃ A n c, Blk w g 88 #[.slice A n c, .int .i64 p, .int .i64 f] ∧ Rd w S 1 A n (l.map bv) ∧ n ≤ c
  far : ¬ S g
  small : p + l.length ≤ 1099511627776

def Only (g : Nat) : Nat → Prop := fun k => k = g

structure RrStep (w : World) (g : Nat) (S : Nat → Prop) (w' : World) (l : List UInt8) (p : Nat) (f : Int) : Prop where
  rr : Rr w' g S l p f
  fr : Fr (Only g) w w'

theorem Rr.keep {w w' : World} {g : Nat} {S T : Nat → Prop} {l : List UInt8} {p : Nat} {f : Int} (h : Rr w g S l p f) (hf : Fr T w w') (h1 : ¬ T g) (h2 : ∀ k, S k → ¬ T k) : Rr w' g S l p f := by
  obtain ⟨⟨A, n, c, hb, hr, hnc⟩, hfar, hsm⟩ := h
  exact ⟨⟨A, n, c, hb.fr hf h1, hr.fr hf h2, hnc⟩, hfar, hsm⟩

theorem Rr.keep0 {w w' : World} {g : Nat} {S : Nat → Prop} {l : List UInt8} {p : Nat} {f : Int} (h : Rr w g S l p f) (hf : Fr Nothing w w') : Rr w' g S l p f := h.keep hf (fun x => x) (fun _ _ x => x)

theorem RrStep.fail {w : World} {g : Nat} {S : Nat → Prop} {l : List UInt8} {p : Nat} {f : Int} (h : Rr w g S l p f) (e : Int) : RrStep w g S (w.setCell ⟨g, 2, none⟩ (.int .i64 e)) l p e := by
  obtain ⟨⟨A, n, c, hb, hr, hnc⟩, hfar, hsm⟩ := h
  have hf : Fr (Only g) w (w.setCell ⟨g, 2, none⟩ (.int .i64 e)) := (Fr.refl (Only g) _).setCell (p := ⟨g, 2, none⟩) (fun _ => (rfl : Only g g)) _
  exact ⟨⟨⟨A, n, c, by simpa using hb.set_ 2 (.int .i64 e), hr.fr hf (fun k hk e => hfar (e ▸ hk)), hnc⟩, hfar, hsm⟩, hf⟩

theorem Rd.cutB {w : World} {S : Nat → Prop} {A : Option Addr} {n k c : Nat} {l : List UInt8} (h : Rd w S 1 A n (l.map bv)) (hk : k ≤ n) (hc : n ≤ c) :
    Rd w S 1 (if c = k then A else A.map (·.add k)) (n - k) ((l.drop k).map bv) := by
  have := h.cut hk hc
  rw [Nat.mul_one, ← List.map_drop] at this
  exact this

theorem RrStep.read {w : World} {g : Nat} {S : Nat → Prop} {l : List UInt8} {p : Nat} {A : Option Addr} {n c size : Nat} (hb : Blk w g 88 #[.slice A n c, .int .i64 p, .int .i64 0]) (hr : Rd w S 1 A n (l.map bv)) (hnc : n ≤ c) (hfar : ¬ S g) (hsm : p + l.length ≤ 1099511627776) (hs : size ≤ l.length)
    {A' : Option Addr} {n' c' : Nat} (hA : A' = if c = size then A else A.map (·.add size)) (hn : n' = n - size) (hc' : c' = c - size) :
    RrStep w g S ((w.setCell ⟨g, 0, none⟩ (.slice A' n' c')).setCell ⟨g, 1, none⟩ (.int .i64 ((p : Int) + (size : Int)))) (l.drop size) (p + size) 0 := by
  have hln : l.length = n := by simpa using hr.1
  have hf : Fr (Only g) w ((w.setCell ⟨g, 0, none⟩ (.slice A' n' c')).setCell ⟨g, 1, none⟩ (.int .i64 ((p : Int) + (size : Int)))) := ((Fr.refl (Only g) _).setCell (p := ⟨g, 0, none⟩) (fun _ => (rfl : Only g g)) _).setCell (p := ⟨g, 1, none⟩) (fun _ => (rfl : Only g g)) _
  subst hA hn hc'
  refine ⟨⟨⟨_, _, _, by simpa [Int.natCast_add] using (hb.set_ 0 (.slice (if c = size then A else A.map (·.add size)) (n - size) (c - size))).set_ 1 (.int .i64 ((p : Int) + (size : Int))), (hr.cutB (by omega) hnc).fr hf (fun k hk e => hfar (e ▸ hk)), by omega⟩, hfar, by simp; omega⟩, hf⟩

/-- What reading one value does. -/
def ReadPost (w : World) (g : Nat) (S : Nat → Prop) (l : List UInt8) (p : Nat) (val zero : Value) (size : Nat) (e : Int) (en : Ending) (w' : World) : Prop :=
  (e ≠ 0 → en = .returned zero ∧ RrStep w g S w' l p e) ∧ (e = 0 → en = .returned val ∧ RrStep w g S w' (l.drop size) (p + size) 0)

set_option maxRecDepth 100000 in
set_option maxHeartbeats 1000000 in
theorem readInt_ok (g : Nat) (S : Nat → Prop) (l : List UInt8) (p : Nat) (fid : Nat) (caps : Array Value) (w : World) (h : Rr w g S l p 0)
    (x : Int) (size : Nat) (e : Int) (hs : size ≤ l.length) (hcall : ∀ args w, (callFunc fid args).run Tryd.prog w = .ok (.enter fid args) w)
    (hc : ∀ A n c, Rd w S 1 A n (l.map bv) → n ≤ c → Calls Tryd.prog fid (#[.slice A n c] ++ caps) w fun en w' => en = .returned (.tuple #[.int .i64 x, .int .i64 size, .int .i64 e]) ∧ w = w') :
    Calls Tryd.prog 60 #[.pointer (some ⟨g, 0, none⟩), .func (.func fid) #[] caps] w (ReadPost w g S l p (.int .i64 x) (.int .i64 0) size e) := by
  obtain ⟨⟨A, n, c, hb, hr, hnc⟩, hfar, hsm⟩ := h
  have hln : l.length = n := by simpa using hr.1
  have hc0 : w.cell? ⟨g, 0, none⟩ = some (.slice A n c) := hb.cell 0
  have hc1 : w.cell? ⟨g, 1, none⟩ = some (.int .i64 p) := hb.cell 1
  have hc2 : w.cell? ⟨g, 2, none⟩ = some (.int .i64 0) := hb.cell 2
  have hf0 := hb.frozen 0
  have hf1 := hb.frozen 1
  have hf2 := hb.frozen 2
  have HC := Lib.hid (hc A n c hr hnc)
  have HB := Lib.hid hb
  have HR := Lib.hid hr
  have hsn : size ≤ n := by omega
  have hpn : p + n ≤ 1099511627776 := by omega
  have HL := Lib.hid hln
  clear hc hb hr hln
  by_cases he : e = 0
  · subst he
    go_enter Tryd.func60, Tryd.ntmps60
    go_wp2_with fail
    refine HC.out.mono ?_
    rintro en w1 ⟨rfl, rfl⟩
    go_wp2
    all_goals
      go_ret
      refine ⟨fun h => absurd rfl h, fun _ => ⟨rfl, ?_⟩⟩
      exact RrStep.read HB.out HR.out hnc hfar hsm hs (by first | rw [if_pos ‹_›] | rw [if_neg ‹_›]) rfl (by omega)
  · have heb : (e != 0) = true := by rw [bne_iff_ne]; exact he
    have HE := Lib.hid he
    clear he
    go_enter Tryd.func60, Tryd.ntmps60
    go_wp2_with fail
    refine HC.out.mono ?_
    rintro en w1 ⟨rfl, rfl⟩
    go_wp2
    go_ret
    exact ⟨fun _ => ⟨rfl, RrStep.fail ⟨⟨A, n, c, HB.out, HR.out, hnc⟩, hfar, hsm⟩ e⟩, fun h => absurd h HE.out⟩

set_option maxRecDepth 100000 in
set_option maxHeartbeats 1000000 in
theorem readInt_bad (g : Nat) (S : Nat → Prop) (l : List UInt8) (p : Nat) (f : Int) (fv : Value) (w : World) (h : Rr w g S l p f) (hf : f ≠ 0) :
    Calls Tryd.prog 60 #[.pointer (some ⟨g, 0, none⟩), fv] w fun en w' => en = .returned (.int .i64 0) ∧ w = w' := by
  obtain ⟨⟨A, n, c, hb, hr, hnc⟩, hfar, hsm⟩ := h
  have hc2 : w.cell? ⟨g, 2, none⟩ = some (.int .i64 f) := hb.cell 2
  have hfb : (f != 0) = true := by rw [bne_iff_ne]; exact hf
  clear hb hr hf
  go_enter Tryd.func60, Tryd.ntmps60
  go_wp2
  go_ret
  exact ⟨rfl, rfl⟩

set_option maxRecDepth 100000 in
set_option maxHeartbeats 1000000 in
theorem readString_ok (g : Nat) (S : Nat → Prop) (l : List UInt8) (p : Nat) (fid : Nat) (caps : Array Value) (w : World) (h : Rr w g S l p 0)
    (x : ByteArray) (size : Nat) (e : Int) (hs : size ≤ l.length) (hcall : ∀ args w, (callFunc fid args).run Tryd.prog w = .ok (.enter fid args) w)
    (hc : ∀ A n c, Rd w S 1 A n (l.map bv) → n ≤ c → Calls Tryd.prog fid (#[.slice A n c] ++ caps) w fun en w' => en = .returned (.tuple #[.string x, .int .i64 size, .int .i64 e]) ∧ w = w') :
    Calls Tryd.prog 57 #[.pointer (some ⟨g, 0, none⟩), .func (.func fid) #[] caps] w (ReadPost w g S l p (.string x) (.string ⟨#[]⟩) size e) := by
  obtain ⟨⟨A, n, c, hb, hr, hnc⟩, hfar, hsm⟩ := h
  have hln : l.length = n := by simpa using hr.1
  have hc0 : w.cell? ⟨g, 0, none⟩ = some (.slice A n c) := hb.cell 0
  have hc1 : w.cell? ⟨g, 1, none⟩ = some (.int .i64 p) := hb.cell 1
  have hc2 : w.cell? ⟨g, 2, none⟩ = some (.int .i64 0) := hb.cell 2
  have hf0 := hb.frozen 0
  have hf1 := hb.frozen 1
  have hf2 := hb.frozen 2
  have HC := Lib.hid (hc A n c hr hnc)
  have HB := Lib.hid hb
  have HR := Lib.hid hr
  have hsn : size ≤ n := by omega
  have hpn : p + n ≤ 1099511627776 := by omega
  have HL := Lib.hid hln
  clear hc hb hr hln
  by_cases he : e = 0
  · subst he
    go_enter Tryd.func57, Tryd.ntmps57
    go_wp2_with fail
    refine HC.out.mono ?_
    rintro en w1 ⟨rfl, rfl⟩
    go_wp2
    all_goals
      go_ret
      refine ⟨fun h => absurd rfl h, fun _ => ⟨rfl, ?_⟩⟩
      exact RrStep.read HB.out HR.out hnc hfar hsm hs (by first | rw [if_pos ‹_›] | rw [if_neg ‹_›]) rfl (by omega)
  · have heb : (e != 0) = true := by rw [bne_iff_ne]; exact he
    have HE := Lib.hid he
    clear he
    go_enter Tryd.func57, Tryd.ntmps57
    go_wp2_with fail
    refine HC.out.mono ?_
    rintro en w1 ⟨rfl, rfl⟩
    go_wp2
    go_ret
    exact ⟨fun _ => ⟨rfl, RrStep.fail ⟨⟨A, n, c, HB.out, HR.out, hnc⟩, hfar, hsm⟩ e⟩, fun h => absurd h HE.out⟩

set_option maxRecDepth 100000 in
set_option maxHeartbeats 1000000 in
theorem readString_bad (g : Nat) (S : Nat → Prop) (l : List UInt8) (p : Nat) (f : Int) (fv : Value) (w : World) (h : Rr w g S l p f) (hf : f ≠ 0) :
    Calls Tryd.prog 57 #[.pointer (some ⟨g, 0, none⟩), fv] w fun en w' => en = .returned (.string ⟨#[]⟩) ∧ w = w' := by
  obtain ⟨⟨A, n, c, hb, hr, hnc⟩, hfar, hsm⟩ := h
  have hc2 : w.cell? ⟨g, 2, none⟩ = some (.int .i64 f) := hb.cell 2
  have hfb : (f != 0) = true := by rw [bne_iff_ne]; exact hf
  clear hb hr hf
  go_enter Tryd.func57, Tryd.ntmps57
  go_wp2
  go_ret
  exact ⟨rfl, rfl⟩

end Go.Proofs.YtfdcmjjafngonaaDoor
