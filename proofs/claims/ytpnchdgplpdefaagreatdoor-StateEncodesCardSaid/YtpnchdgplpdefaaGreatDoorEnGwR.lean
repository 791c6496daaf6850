/- Several texts in one. -/
import Derived.Test.YtpnchdgplpdefaaGreatDoorEnGwX
namespace Go.Proofs.YtpnchdgplpdefaaGreatDoor
open Go.RowKit
structure Rr (w : World) (g : Nat) (S : Nat → Prop) (l : List UInt8) (p : Nat) (f : Int) : Prop where
 ex : ∃ A n c, Blk w g 116 #[.slice A n c, .int .i64 p, .int .i64 f] ∧ Rd w S 1 A n (l.map bv) ∧ n ≤ c
 far : ¬ S g
 small : p + l.length ≤ 1099511627776
def Only (g : Nat) : Nat → Prop := fun k => k = g
structure RrStep (w : World) (g : Nat) (S : Nat → Prop) (w' : World) (l : List UInt8) (p : Nat) (f : Int) : Prop where
 rr : Rr w' g S l p f
 fr : Fr (Only g) w w'
theorem Rr.keep {w w' : World} {g : Nat} {S T : Nat → Prop} {l : List UInt8} {p : Nat} {f : Int} (h : Rr w g S l p f) (hf : Fr T w w') (h1 : ¬ T g) (h2 : ∀ k, S k → ¬ T k) : Rr w' g S l p f := by
 obtain ⟨⟨A, n, c, hb, hr, hnc⟩, hfar, hsm⟩ := h
 exact ⟨⟨A, n, c, hb.fr hf h1, hr.fr hf h2, hnc⟩, hfar, hsm⟩
theorem Rr.keep0 {w w' : World} {g : Nat} {S : Nat → Prop} {l : List UInt8} {p : Nat} {f : Int} (h : Rr w g S l p f) (hf : Fr Nothing w w') : Rr w' g S l p f := h.keep hf (fun x => x) (fun _ _ x => x)
theorem RrStep.fail {w : World} {g : Nat} {S : Nat → Prop} {l : List UInt8} {p : Nat} {f : Int} (h : Rr w g S l p f) (e : Int) : RrStep w g S (w.setCell ⟨g, 2, none⟩ (.int .i64 e)) l p e := by
 obtain ⟨⟨A, n, c, hb, hr, hnc⟩, hfar, hsm⟩ := h
 have hf : Fr (Only g) w (w.setCell ⟨g, 2, none⟩ (.int .i64 e)) := (Fr.refl (Only g) _).setCell (p := ⟨g, 2, none⟩) (fun _ => (rfl : Only g g)) _
 exact ⟨⟨⟨A, n, c, by simpa using hb.set_ 2 (.int .i64 e), hr.fr hf (fun k hk e => hfar (e ▸ hk)), hnc⟩, hfar, hsm⟩, hf⟩
theorem Rd.cutB {w : World} {S : Nat → Prop} {A : Option Addr} {n k c : Nat} {l : List UInt8} (h : Rd w S 1 A n (l.map bv)) (hk : k ≤ n) (hc : n ≤ c) :
  Rd w S 1 (if c = k then A else A.map (·.add k)) (n - k) ((l.drop k).map bv) := by
 have := h.cut hk hc
 rw [Nat.mul_one, ← List.map_drop] at this
 exact this
theorem RrStep.read {w : World} {g : Nat} {S : Nat → Prop} {l : List UInt8} {p : Nat} {A : Option Addr} {n c size : Nat} (hb : Blk w g 116 #[.slice A n c, .int .i64 p, .int .i64 0]) (hr : Rd w S 1 A n (l.map bv)) (hnc : n ≤ c) (hfar : ¬ S g) (hsm : p + l.length ≤ 1099511627776) (hs : size ≤ l.length)
  {A' : Option Addr} {n' c' : Nat} (hA : A' = if c = size then A else A.map (·.add size)) (hn : n' = n - size) (hc' : c' = c - size) :
  RrStep w g S ((w.setCell ⟨g, 0, none⟩ (.slice A' n' c')).setCell ⟨g, 1, none⟩ (.int .i64 ((p : Int) + (size : Int)))) (l.drop size) (p + size) 0 := by
 have hln : l.length = n := by simpa using hr.1
 have hf : Fr (Only g) w ((w.setCell ⟨g, 0, none⟩ (.slice A' n' c')).setCell ⟨g, 1, none⟩ (.int .i64 ((p : Int) + (size : Int)))) := ((Fr.refl (Only g) _).setCell (p := ⟨g, 0, none⟩) (fun _ => (rfl : Only g g)) _).setCell (p := ⟨g, 1, none⟩) (fun _ => (rfl : Only g g)) _
 subst hA hn hc'
 refine ⟨⟨⟨_, _, _, by simpa [Int.natCast_add] using (hb.set_ 0 (.slice (if c = size then A else A.map (·.add size)) (n - size) (c - size))).set_ 1 (.int .i64 ((p : Int) + (size : Int))), (hr.cutB (by omega) hnc).fr hf (fun k hk e => hfar (e ▸ hk)), by omega⟩, hfar, by simp; omega⟩, hf⟩
def ReadPost (w : World) (g : Nat) (S : Nat → Prop) (l : List UInt8) (p : Nat) (val zero : Value) (size : Nat) (e : Int) (en : Ending) (w' : World) : Prop :=
 (e ≠ 0 → en = .returned zero ∧ RrStep w g S w' l p e) ∧ (e = 0 → en = .returned val ∧ RrStep w g S w' (l.drop size) (p + size) 0)
set_option maxRecDepth 100000 in
set_option maxHeartbeats 1000000 in
theorem readInt_ok (g : Nat) (S : Nat → Prop) (l : List UInt8) (p : Nat) (fid : Nat) (caps : Array Value) (w : World) (h : Rr w g S l p 0)
  (x : Int) (size : Nat) (e : Int) (hs : size ≤ l.length) (hcall : ∀ args w, (callFunc fid args).run Tryz.prog w = .ok (.enter fid args) w)
  (hc : ∀ A n c, Rd w S 1 A n (l.map bv) → n ≤ c → Calls Tryz.prog fid (#[.slice A n c] ++ caps) w fun en w' => en = .returned (.tuple #[.int .i64 x, .int .i64 size, .int .i64 e]) ∧ w = w') :
  Calls Tryz.prog 56 #[.pointer (some ⟨g, 0, none⟩), .func (.func fid) #[] caps] w (ReadPost w g S l p (.int .i64 x) (.int .i64 0) size e) := by
 obtain ⟨⟨A, n, c, hb, hr, hnc⟩, hfar, hsm⟩ := h
 have hln : l.length = n := by simpa using hr.1
 have hc0 : w.cell? ⟨g, 0, none⟩ = some (.slice A n c) := hb.cell 0
 have hc1 : w.cell? ⟨g, 1, none⟩ = some (.int .i64 p) := hb.cell 1
 have hc2 : w.cell? ⟨g, 2, none⟩ = some (.int .i64 0) := hb.cell 2
 have hf0 := hb.frozen 0
 have hf1 := hb.frozen 1
 have hf2 := hb.frozen 2
 have HC := Lib.hid (hc A n c hr hnc)
 have HB := Lib.hid hb
 have HR := Lib.hid hr
 have hsn : size ≤ n := by omega
 have hpn : p + n ≤ 1099511627776 := by omega
 have HL := Lib.hid hln
 clear hc hb hr hln
 by_cases he : e = 0
 ·subst he
  go_enter Tryz.func56, Tryz.ntmps56
  go_wp2_with fail
  refine HC.out.mono ?_
  rintro en w1 ⟨rfl, rfl⟩
  go_wp2
  all_goals
   go_ret
   refine ⟨fun h => absurd rfl h, fun _ => ⟨rfl, ?_⟩⟩
   exact RrStep.read HB.out HR.out hnc hfar hsm hs (by first | rw [if_pos ‹_›] | rw [if_neg ‹_›]) rfl (by omega)
 ·have heb : (e != 0) = true := by rw [bne_iff_ne]; exact he
  have HE := Lib.hid he
  clear he
  go_enter Tryz.func56, Tryz.ntmps56
  go_wp2_with fail
  refine HC.out.mono ?_
  rintro en w1 ⟨rfl, rfl⟩
  go_wp2
  go_ret
  exact ⟨fun _ => ⟨rfl, RrStep.fail ⟨⟨A, n, c, HB.out, HR.out, hnc⟩, hfar, hsm⟩ e⟩, fun h => absurd h HE.out⟩
set_option maxRecDepth 100000 in
set_option maxHeartbeats 1000000 in
theorem readInt_bad (g : Nat) (S : Nat → Prop) (l : List UInt8) (p : Nat) (f : Int) (fv : Value) (w : World) (h : Rr w g S l p f) (hf : f ≠ 0) :
  Calls Tryz.prog 56 #[.pointer (some ⟨g, 0, none⟩), fv] w fun en w' => en = .returned (.int .i64 0) ∧ w = w' := by
 obtain ⟨⟨A, n, c, hb, hr, hnc⟩, hfar, hsm⟩ := h
 have hc2 : w.cell? ⟨g, 2, none⟩ = some (.int .i64 f) := hb.cell 2
 have hfb : (f != 0) = true := by rw [bne_iff_ne]; exact hf
 clear hb hr hf
 go_enter Tryz.func56, Tryz.ntmps56
 go_wp2
 go_ret
 exact ⟨rfl, rfl⟩
set_option maxRecDepth 100000 in
set_option maxHeartbeats 1000000 in
theorem readString_ok (g : Nat) (S : Nat → Prop) (l : List UInt8) (p : Nat) (fid : Nat) (caps : Array Value) (w : World) (h : Rr w g S l p 0)
  (x : ByteArray) (size : Nat) (e : Int) (hs : size ≤ l.length) (hcall : ∀ args w, (callFunc fid args).run Tryz.prog w = .ok (.enter fid args) w)
  (hc : ∀ A n c, Rd w S 1 A n (l.map bv) → n ≤ c → Calls Tryz.prog fid (#[.slice A n c] ++ caps) w fun en w' => en = .returned (.tuple #[.string x, .int .i64 size, .int .i64 e]) ∧ w = w') :
  Calls Tryz.prog 59 #[.pointer (some ⟨g, 0, none⟩), .func (.func fid) #[] caps] w (ReadPost w g S l p (.string x) (.string ⟨#[]⟩) size e) := by
 obtain ⟨⟨A, n, c, hb, hr, hnc⟩, hfar, hsm⟩ := h
 have hln : l.length = n := by simpa using hr.1
 have hc0 : w.cell? ⟨g, 0, none⟩ = some (.slice A n c) := hb.cell 0
 have hc1 : w.cell? ⟨g, 1, none⟩ = some (.int .i64 p) := hb.cell 1
 have hc2 : w.cell? ⟨g, 2, none⟩ = some (.int .i64 0) := hb.cell 2
 have hf0 := hb.frozen 0
 have hf1 := hb.frozen 1
 have hf2 := hb.frozen 2
 have HC := Lib.hid (hc A n c hr hnc)
 have HB := Lib.hid hb
 have HR := Lib.hid hr
 have hsn : size ≤ n := by omega
 have hpn : p + n ≤ 1099511627776 := by omega
 have HL := Lib.hid hln
 clear hc hb hr hln
 by_cases he : e = 0
 ·subst he
  go_enter Tryz.func59, Tryz.ntmps59
  go_wp2_with fail
  refine HC.out.mono ?_
  rintro en w1 ⟨rfl, rfl⟩
  go_wp2
  all_goals
   go_ret
   refine ⟨fun h => absurd rfl h, fun _ => ⟨rfl, ?_⟩⟩
   exact RrStep.read HB.out HR.out hnc hfar hsm hs (by first | rw [if_pos ‹_›] | rw [if_neg ‹_›]) rfl (by omega)
 ·have heb : (e != 0) = true := by rw [bne_iff_ne]; exact he
  have HE := Lib.hid he
  clear he
  go_enter Tryz.func59, Tryz.ntmps59
  go_wp2_with fail
  refine HC.out.mono ?_
  rintro en w1 ⟨rfl, rfl⟩
  go_wp2
  go_ret
  exact ⟨fun _ => ⟨rfl, RrStep.fail ⟨⟨A, n, c, HB.out, HR.out, hnc⟩, hfar, hsm⟩ e⟩, fun h => absurd h HE.out⟩
set_option maxRecDepth 100000 in
set_option maxHeartbeats 1000000 in
theorem readString_bad (g : Nat) (S : Nat → Prop) (l : List UInt8) (p : Nat) (f : Int) (fv : Value) (w : World) (h : Rr w g S l p f) (hf : f ≠ 0) :
  Calls Tryz.prog 59 #[.pointer (some ⟨g, 0, none⟩), fv] w fun en w' => en = .returned (.string ⟨#[]⟩) ∧ w = w' := by
 obtain ⟨⟨A, n, c, hb, hr, hnc⟩, hfar, hsm⟩ := h
 have hc2 : w.cell? ⟨g, 2, none⟩ = some (.int .i64 f) := hb.cell 2
 have hfb : (f != 0) = true := by rw [bne_iff_ne]; exact hf
 clear hb hr hf
 go_enter Tryz.func59, Tryz.ntmps59
 go_wp2
 go_ret
 exact ⟨rfl, rfl⟩
end Go.Proofs.YtpnchdgplpdefaaGreatDoor
namespace Go.Proofs.YtpnchdgplpdefaaGreatDoor
open Go.RowKit
def pNumber (most : Int) (l : List UInt8) : Int × Nat × Int := ((pn l 9).1, (pn l 9).2.1, if (pn l 9).2.2 = 0 ∧ most < ((pn l 9).1 : Int) then 2 else ((pn l 9).2.2 : Nat))
def pText (most : Int) (l : List UInt8) : List UInt8 × Nat × Int :=
 if (pn l 9).2.2 ≠ 0 then ([], 0, ((pn l 9).2.2 : Nat))
 else if most < ((pn l 9).1 : Int) ∨ 16777216 < (pn l 9).1 then ([], 0, 5)
 else if l.length < (pn l 9).2.1 + (pn l 9).1 then ([], 0, 28)
 else ((l.drop (pn l 9).2.1).take (pn l 9).1, (pn l 9).2.1 + (pn l 9).1, 0)
def rStep {α : Type} (zero : α) (parse : List UInt8 → α × Nat × Int) (st : List UInt8 × Nat × Int) : α × (List UInt8 × Nat × Int) :=
 if st.2.2 ≠ 0 then (zero, st) else if (parse st.1).2.2 ≠ 0 then (zero, (st.1, st.2.1, (parse st.1).2.2)) else ((parse st.1).1, (st.1.drop (parse st.1).2.1, st.2.1 + (parse st.1).2.1, 0))
def RPost (w : World) (g : Nat) (S : Nat → Prop) (v : Value) (st : List UInt8 × Nat × Int) (en : Ending) (w' : World) : Prop := en = .returned v ∧ RrStep w g S w' st.1 st.2.1 st.2.2
theorem RPost.ok {α : Type} {w w1 : World} {g : Nat} {S : Nat → Prop} {l : List UInt8} {p : Nat} (zero : α) (parse : List UInt8 → α × Nat × Int) (V : α → Value) {en : Ending} {w' : World} (hf : Fr Nothing w w1) (_hg : g < w.heap.size)
  (h : ReadPost w1 g S l p (V (parse l).1) (V zero) (parse l).2.1 (parse l).2.2 en w') : RPost w g S (V (rStep zero parse (l, p, 0)).1) (rStep zero parse (l, p, 0)).2 en w' := by
 have hfr : ∀ {w2 : World}, Fr (Only g) w1 w2 → Fr (Only g) w w2 := fun h => (hf.weak).trans h
 by_cases he : (parse l).2.2 = 0
 ·obtain ⟨h1, h2⟩ := h.2 he
  have e : rStep zero parse (l, p, 0) = ((parse l).1, (l.drop (parse l).2.1, p + (parse l).2.1, 0)) := by simp [rStep, he]
  rw [e]
  exact ⟨h1, h2.rr, hfr h2.fr⟩
 ·obtain ⟨h1, h2⟩ := h.1 he
  have e : rStep zero parse (l, p, 0) = (zero, (l, p, (parse l).2.2)) := by simp [rStep, he]
  rw [e]
  exact ⟨h1, h2.rr, hfr h2.fr⟩
theorem RPost.bad {α : Type} {w w1 : World} {g : Nat} {S : Nat → Prop} {l : List UInt8} {p : Nat} {f : Int} (zero : α) (parse : List UInt8 → α × Nat × Int) (V : α → Value) {en : Ending} (hf : Fr Nothing w w1) (h : Rr w g S l p f) (hne : f ≠ 0) (he : en = .returned (V zero)) :
  RPost w g S (V (rStep zero parse (l, p, f)).1) (rStep zero parse (l, p, f)).2 en w1 := by
 have e : rStep zero parse (l, p, f) = (zero, (l, p, f)) := by simp [rStep, hne]
 rw [e]
 exact ⟨he, h.keep0 hf, hf.weak⟩
theorem Rr.lt {w : World} {g : Nat} {S : Nat → Prop} {l : List UInt8} {p : Nat} {f : Int} (h : Rr w g S l p f) : g < w.heap.size := by
 obtain ⟨⟨_, _, _, hb, _⟩, _⟩ := h
 exact hb.lt
theorem callNumber : ∀ args w, (callFunc 57 args).run Tryz.prog w = .ok (.enter 57 args) w := fun _ _ => by kernel_rfl
theorem callText : ∀ args w, (callFunc 60 args).run Tryz.prog w = .ok (.enter 60 args) w := fun _ _ => by kernel_rfl
set_option maxHeartbeats 1000000 in
theorem Number1_any (A : Option Addr) (n c b : Nat) (l : List UInt8) (most : Int) (w : World) (S : Nat → Prop) (hr : Rd w S 1 A n (l.map bv)) (hn : n ≤ 1099511627776) (hb : w.cell? ⟨b, 0, none⟩ = some (.int .i64 most)) :
  Calls Tryz.prog 57 #[.slice A n c, .pointer (some ⟨b, 0, none⟩)] w fun e w' => e = .returned (.tuple #[.int .i64 (pNumber most l).1, .int .i64 ((pNumber most l).2.1 : Nat), .int .i64 (pNumber most l).2.2]) ∧ w = w' := by
 have hp := cParse_any A n c l w S hr hn
 have hb9 := pn_lt9 l
 have hc : (pn l 9).2.2 = 0 ∨ (pn l 9).2.2 ≠ 0 := by omega
 unfold pNumber
 generalize (pn l 9).1 = a1 at hp hb9 hc ⊢
 generalize (pn l 9).2.1 = a2 at hp hc ⊢
 generalize (pn l 9).2.2 = a3 at hp hc ⊢
 have HP := Lib.hid hp
 clear hp hr
 rcases hc with rfl | hne
 ·by_cases hm : most < (a1 : Int)
  ·rw [if_pos ⟨rfl, hm⟩]
   go_enter Tryz.func57, Tryz.ntmps57
   go_wp2_with fail
   refine HP.out.mono ?_
   rintro e w1 ⟨rfl, rfl⟩
   go_wp2
   go_ret3
   exact ⟨rfl, rfl⟩
  ·rw [if_neg (fun h => hm h.2)]
   go_enter Tryz.func57, Tryz.ntmps57
   go_wp2_with fail
   refine HP.out.mono ?_
   rintro e w1 ⟨rfl, rfl⟩
   go_wp2
   go_ret3
   exact ⟨rfl, rfl⟩
 ·have hne' : ((a3 : Int) == 0) = false := beq_eq_false_iff_ne.2 (by omega)
  rw [if_neg (fun h => hne h.1)]
  clear hne
  go_enter Tryz.func57, Tryz.ntmps57
  go_wp2_with fail
  refine HP.out.mono ?_
  rintro e w1 ⟨rfl, rfl⟩
  go_wp2
  go_ret3
  exact ⟨rfl, rfl⟩
theorem run_cut {w : World} {S : Nat → Prop} {A : Option Addr} {n c a m : Nat} {l : List UInt8} (hr : Rd w S 1 A n (l.map bv)) (h : a + m ≤ n) (hc : n ≤ c) (A' : Option Addr) (hA : A' = if c = a then A else A.map (·.add a)) (c' : Nat) :
  (convert 28 9 (.slice A' m c')).run Tryz.prog w = .ok (.string ⟨((l.drop a).take m).toArray⟩) w := by
 subst hA
 have h1 := hr.cutB (k := a) (by omega) hc
 have h2 := h1.take (k := m) (by omega)
 rw [Nat.mul_one, ← List.map_take] at h2
 exact run_strT w S _ m c' _ h2
set_option maxRecDepth 100000 in
set_option maxHeartbeats 1000000 in
theorem Text1_any (A : Option Addr) (n c b : Nat) (l : List UInt8) (most : Int) (w : World) (S : Nat → Prop) (hr : Rd w S 1 A n (l.map bv)) (hn : n ≤ 1099511627776) (hnc : n ≤ c) (hb : w.cell? ⟨b, 0, none⟩ = some (.int .i64 most)) :
  Calls Tryz.prog 60 #[.slice A n c, .pointer (some ⟨b, 0, none⟩)] w fun e w' => e = .returned (.tuple #[.string ⟨(pText most l).1.toArray⟩, .int .i64 ((pText most l).2.1 : Nat), .int .i64 (pText most l).2.2]) ∧ w = w' := by
 have hp := cParse_any A n c l w S hr hn
 have hb9 := pn_lt9 l
 have hsz := (pn_size l 9 (by omega)).2
 have hln : l.length = n := by simpa using hr.1
 have HC := Lib.hid (fun a m h => run_cut (a := a) (m := m) hr h hnc)
 unfold pText
 generalize (pn l 9).1 = a1 at hp hb9 ⊢
 generalize (pn l 9).2.1 = a2 at hp hsz ⊢
 generalize (pn l 9).2.2 = a3 at hp ⊢
 rw [hln] at hsz ⊢
 have HP := Lib.hid hp
 clear hp hr hln
 by_cases h3 : a3 ≠ 0
 ·rw [if_pos h3]
  have h3b : ((a3 : Int) != 0) = true := by rw [bne_iff_ne]; omega
  clear h3
  go_enter Tryz.func60, Tryz.ntmps60
  go_wp2_with fail
  refine HP.out.mono ?_
  rintro e w1 ⟨rfl, rfl⟩
  go_wp2
  go_ret3
  exact ⟨rfl, rfl⟩
 ·rw [if_neg h3]
  have h30 : a3 = 0 := by omega
  subst h30
  clear h3
  by_cases hm : most < (a1 : Int)
  ·rw [if_pos (.inl hm)]
   go_enter Tryz.func60, Tryz.ntmps60
   go_wp2_with fail
   refine HP.out.mono ?_
   rintro e w1 ⟨rfl, rfl⟩
   go_wp2
   go_ret3
   exact ⟨rfl, rfl⟩
  ·by_cases hm2 : 16777216 < a1
   ·rw [if_pos (.inr hm2)]
    go_enter Tryz.func60, Tryz.ntmps60
    go_wp2_with fail
    refine HP.out.mono ?_
    rintro e w1 ⟨rfl, rfl⟩
    go_wp2
    go_ret3
    exact ⟨rfl, rfl⟩
   ·rw [if_neg (by omega)]
    by_cases hlen : n < a2 + a1
    ·rw [if_pos hlen]
     go_enter Tryz.func60, Tryz.ntmps60
     go_wp2_with fail
     refine HP.out.mono ?_
     rintro e w1 ⟨rfl, rfl⟩
     go_wp2
     go_ret3
     exact ⟨rfl, rfl⟩
    ·rw [if_neg hlen]
     by_cases hca : c = a2
     ·subst hca
      have hcv := HC.out c a1 (by omega) A (by simp) 0
      clear HC
      go_enter Tryz.func60, Tryz.ntmps60
      go_wp2_with fail
      refine HP.out.mono ?_
      rintro e w1 ⟨rfl, rfl⟩
      go_wp2
      go_ret3
      exact ⟨rfl, rfl⟩
     ·have hcv := HC.out a2 a1 (by omega) (A.map (·.add a2)) (by rw [if_neg hca]) (c - a2)
      clear HC
      go_enter Tryz.func60, Tryz.ntmps60
      go_wp2_with fail
      refine HP.out.mono ?_
      rintro e w1 ⟨rfl, rfl⟩
      go_wp2
      go_ret3
      exact ⟨rfl, rfl⟩
theorem pNumber_size (most : Int) (l : List UInt8) : (pNumber most l).2.1 ≤ l.length := (pn_size l 9 (by omega)).2
theorem pText_size (most : Int) (l : List UInt8) : (pText most l).2.1 ≤ l.length := by
 unfold pText
 repeat' split
 all_goals simp only
 all_goals omega
theorem Rr.n_le {w : World} {g : Nat} {S : Nat → Prop} {l : List UInt8} {p : Nat} {f : Int} (h : Rr w g S l p f) {A : Option Addr} {n : Nat} {w' : World} (hr : Rd w' S 1 A n (l.map bv)) : n ≤ 1099511627776 := by
 have := hr.1
 have := h.small
 simp at *
 omega
theorem arr_app1 (x y : Value) : (#[x] ++ #[y] : Array Value) = #[x, y] := rfl
def tV (l : List UInt8) : Value := .string ⟨l.toArray⟩
set_option maxHeartbeats 1000000 in
theorem rdNumber_any (g : Nat) (S : Nat → Prop) (l : List UInt8) (p : Nat) (f : Int) (most : Int) (w : World) (h : Rr w g S l p f) :
  Calls Tryz.prog 28 #[.pointer (some ⟨g, 0, none⟩), .int .i64 most] w (RPost w g S (Value.int .i64 (rStep 0 (pNumber most) (l, p, f)).1) (rStep 0 (pNumber most) (l, p, f)).2) := by
 have HH := Lib.hid h
 clear h
 have HA := Lib.hid ((Fr.refl Nothing w).alloc (.cells #[.int .i64 most] 3))
 by_cases hf : f = 0
 ·subst hf
  go_enter Tryz.func28, Tryz.ntmps28
  go_wp2_with fail
  have HCL : Hid (∀ A n c, Rd (w.alloc (.cells #[.int .i64 most] 3)) S 1 A n (l.map bv) → n ≤ c → Calls Tryz.prog 57 (#[.slice A n c] ++ #[.pointer (some ⟨w.heap.size, 0, none⟩)]) (w.alloc (.cells #[.int .i64 most] 3)) fun en w' => en = .returned (.tuple #[.int .i64 (pNumber most l).1, .int .i64 ((pNumber most l).2.1 : Nat), .int .i64 (pNumber most l).2.2]) ∧ w.alloc (.cells #[.int .i64 most] 3) = w') := by
   intro A n c hr hnc
   rw [arr_app1]
   exact Number1_any A n c w.heap.size l most _ S hr (HH.out.n_le hr) ((Blk.new w _ _).cell 0)
  refine (readInt_ok g S l p 57 #[.pointer (some ⟨w.heap.size, 0, none⟩)] (w.alloc (.cells #[.int .i64 most] 3)) (HH.out.keep0 HA.out) (pNumber most l).1 (pNumber most l).2.1 (pNumber most l).2.2 (pNumber_size most l) callNumber HCL.out).mono ?_
  rintro e w1 h1
  have HP := Lib.hid (RPost.ok 0 (pNumber most) (Value.int .i64) HA.out HH.out.lt h1)
  obtain ⟨rfl, _⟩ := HP.out
  clear h1
  go_wp2
  go_ret
  exact HP.out
 ·have HF := Lib.hid hf
  clear hf
  go_enter Tryz.func28, Tryz.ntmps28
  go_wp2_with fail
  refine (readInt_bad g S l p f _ _ (HH.out.keep0 HA.out) HF.out).mono ?_
  rintro e w1 ⟨rfl, rfl⟩
  go_wp2
  go_ret
  exact RPost.bad 0 (pNumber most) (Value.int .i64) HA.out HH.out HF.out rfl
set_option maxHeartbeats 1000000 in
theorem rText_any (g : Nat) (S : Nat → Prop) (l : List UInt8) (p : Nat) (f : Int) (most : Int) (w : World) (h : Rr w g S l p f) :
  Calls Tryz.prog 29 #[.pointer (some ⟨g, 0, none⟩), .int .i64 most] w (RPost w g S (tV (rStep [] (pText most) (l, p, f)).1) (rStep [] (pText most) (l, p, f)).2) := by
 have HH := Lib.hid h
 clear h
 have HA := Lib.hid ((Fr.refl Nothing w).alloc (.cells #[.int .i64 most] 3))
 by_cases hf : f = 0
 ·subst hf
  go_enter Tryz.func29, Tryz.ntmps29
  go_wp2_with fail
  have HCL : Hid (∀ A n c, Rd (w.alloc (.cells #[.int .i64 most] 3)) S 1 A n (l.map bv) → n ≤ c → Calls Tryz.prog 60 (#[.slice A n c] ++ #[.pointer (some ⟨w.heap.size, 0, none⟩)]) (w.alloc (.cells #[.int .i64 most] 3)) fun en w' => en = .returned (.tuple #[.string ⟨(pText most l).1.toArray⟩, .int .i64 ((pText most l).2.1 : Nat), .int .i64 (pText most l).2.2]) ∧ w.alloc (.cells #[.int .i64 most] 3) = w') := by
   intro A n c hr hnc
   rw [arr_app1]
   exact Text1_any A n c w.heap.size l most _ S hr (HH.out.n_le hr) hnc ((Blk.new w _ _).cell 0)
  refine (readString_ok g S l p 60 #[.pointer (some ⟨w.heap.size, 0, none⟩)] (w.alloc (.cells #[.int .i64 most] 3)) (HH.out.keep0 HA.out) ⟨(pText most l).1.toArray⟩ (pText most l).2.1 (pText most l).2.2 (pText_size most l) callText HCL.out).mono ?_
  rintro e w1 h1
  have HP := Lib.hid (RPost.ok [] (pText most) tV HA.out HH.out.lt h1)
  obtain ⟨rfl, _⟩ := HP.out
  clear h1
  go_wp2
  go_ret
  exact HP.out
 ·have HF := Lib.hid hf
  clear hf
  go_enter Tryz.func29, Tryz.ntmps29
  go_wp2_with fail
  refine (readString_bad g S l p f _ _ (HH.out.keep0 HA.out) HF.out).mono ?_
  rintro e w1 ⟨rfl, rfl⟩
  go_wp2
  go_ret
  exact RPost.bad [] (pText most) tV HA.out HH.out HF.out rfl
def RrNew (w : World) (l : List UInt8) (e : Ending) (w' : World) : Prop := ∃ g S, e = .returned (.pointer (some ⟨g, 0, none⟩)) ∧ Rr w' g S l 0 0 ∧ Fr Nothing w w' ∧ w.heap.size ≤ g ∧ ∀ k, S k → w.heap.size ≤ k ∧ k < w'.heap.size
set_option maxHeartbeats 1000000 in
theorem NewReader_any (A : Option Addr) (n c : Nat) (l : List UInt8) (w : World) (S : Nat → Prop) (hr : Rd w S 1 A n (l.map bv)) (hn : n ≤ 1099511627776) : Calls Tryz.prog 27 #[.slice A n c] w (RrNew w l) := by
 have hln : l.length = n := by simpa using hr.1
 have HL := Lib.hid hln
 have HC := Lib.hid (Clone_any A n c l w S hr hn)
 clear hln hr
 go_enter Tryz.func27, Tryz.ntmps27
 go_wp2_with fail
 refine HC.out.mono ?_
 rintro e w1 ⟨v1, rfl, hg1⟩
 obtain ⟨A1, n1, c1, rfl, H1, H1c⟩ := own_slice hg1.own
 have HG := Lib.hid hg1
 clear hg1
 go_wp2
 go_ret
 have hR := OwnB.rd HG.out.own H1.out
 refine ⟨w1.heap.size, Rows1 (.slice A1 n1 c1), rfl, ⟨⟨A1, n1, c1, Blk.new _ _ _, hR.fr0 ((Fr.refl _ _).alloc _), H1c.out⟩, fun h => ?_, ?_⟩, HG.out.fr0.alloc _, HG.out.fr.size, fun k hk => ⟨HG.out.new k hk, by have := (HG.out.own.lt _ hk).2; simp; omega⟩⟩
 ·have := (HG.out.own.lt _ h).2; omega
 ·have := HL.out; omega
set_option maxHeartbeats 1000000 in
theorem rFailed_any (g : Nat) (S : Nat → Prop) (l : List UInt8) (p : Nat) (f : Int) (w : World) (h : Rr w g S l p f) :
  Calls Tryz.prog 30 #[.pointer (some ⟨g, 0, none⟩)] w fun e w' => e = .returned (.tuple #[.int .i64 (if f = 0 then 0 else (p : Int)), .int .i64 f]) ∧ Fr Nothing w w' := by
 obtain ⟨⟨A, n, c, hb, hr, hnc⟩, hfar, hsm⟩ := h
 have hc1 : w.cell? ⟨g, 1, none⟩ = some (.int .i64 p) := hb.cell 1
 have hc2 : w.cell? ⟨g, 2, none⟩ = some (.int .i64 f) := hb.cell 2
 clear hb hr
 by_cases hf : f = 0
 ·subst hf
  rw [if_pos rfl]
  go_enter Tryz.func30, Tryz.ntmps30
  go_wp2
  go_ret2
  exact ⟨rfl, Fr.refl _ _⟩
 ·rw [if_neg hf]
  have hfb : (f == 0) = false := beq_eq_false_iff_ne.2 hf
  clear hf
  go_enter Tryz.func30, Tryz.ntmps30
  go_wp2
  go_quiet (fail)
  go_wp2
  go_ret2
  exact ⟨rfl, (Fr.refl _ _).drewN _⟩
set_option maxHeartbeats 1000000 in
theorem rClose_any (g : Nat) (S : Nat → Prop) (l : List UInt8) (p : Nat) (f : Int) (w : World) (h : Rr w g S l p f) :
  Calls Tryz.prog 33 #[.pointer (some ⟨g, 0, none⟩)] w fun e w' => e = .returned (.int .i64 (if f = 0 then (if 0 < l.length then 5 else 0) else f)) ∧ w = w' := by
 obtain ⟨⟨A, n, c, hb, hr, hnc⟩, hfar, hsm⟩ := h
 have hln : l.length = n := by simpa using hr.1
 have hc0 : w.cell? ⟨g, 0, none⟩ = some (.slice A n c) := hb.cell 0
 have hc2 : w.cell? ⟨g, 2, none⟩ = some (.int .i64 f) := hb.cell 2
 rw [hln]
 clear hb hr hln
 by_cases hf : f = 0
 ·subst hf
  rw [if_pos rfl]
  by_cases hn : 0 < n
  ·rw [if_pos hn]
   go_enter Tryz.func33, Tryz.ntmps33
   go_wp2
   go_ret
   exact ⟨rfl, rfl⟩
  ·rw [if_neg hn]
   go_enter Tryz.func33, Tryz.ntmps33
   go_wp2
   go_ret
   exact ⟨rfl, rfl⟩
 ·rw [if_neg hf]
  have hfb : (f != 0) = true := by rw [bne_iff_ne]; exact hf
  clear hf
  go_enter Tryz.func33, Tryz.ntmps33
  go_wp2
  go_ret
  exact ⟨rfl, rfl⟩
end Go.Proofs.YtpnchdgplpdefaaGreatDoor
