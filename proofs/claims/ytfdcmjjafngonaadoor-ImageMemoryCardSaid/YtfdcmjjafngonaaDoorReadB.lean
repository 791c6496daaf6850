/- codec.Reader's methods. -/
import Derived.Test.YtfdcmjjafngonaaDoorReadA
namespace Go.Proofs.YtfdcmjjafngonaaDoor
open Go.RowKit

def pNumber (most : Int) (l : List UInt8) : Int × Nat × Int := ((pn l 9).1, (pn l 9).2.1, if (pn l 9).2.2 = 0 ∧ most < ((pn l 9).1 : Int) then 2 else ((pn l 9).2.2 : Nat))
def unzig (u : Nat) : Int := if u % 2 = 1 then -((u / 2 : Nat) : Int) - 1 else ((u / 2 : Nat) : Int)
def pSigned (l : List UInt8) : Int × Nat × Int := (unzig (pn l 10).1, (pn l 10).2.1, ((pn l 10).2.2 : Nat))
def pFlag (l : List UInt8) : Bool × Nat × Int := if l.length = 0 then (false, 0, 28) else if 1 < (l[0]?.getD 0).toNat then (false, 0, 3) else ((l[0]?.getD 0).toNat == 1, 1, 0)
def pText (most : Int) (l : List UInt8) : List UInt8 × Nat × Int :=
  if (pn l 9).2.2 ≠ 0 then ([], 0, ((pn l 9).2.2 : Nat))
  else if most < ((pn l 9).1 : Int) ∨ 16777216 < (pn l 9).1 then ([], 0, 5)
  else if l.length < (pn l 9).2.1 + (pn l 9).1 then ([], 0, 28)
  else ((l.drop (pn l 9).2.1).take (pn l 9).1, (pn l 9).2.1 + (pn l 9).1, 0)

def rStep {α : Type} (zero : α) (parse : List UInt8 → α × Nat × Int) (st : List UInt8 × Nat × Int) : α × (List UInt8 × Nat × Int) :=
  if st.2.2 ≠ 0 then (zero, st) else if (parse st.1).2.2 ≠ 0 then (zero, (st.1, st.2.1, (parse st.1).2.2)) else ((parse st.1).1, (st.1.drop (parse st.1).2.1, st.2.1 + (parse st.1).2.1, 0))

def RPost (w : World) (g : Nat) (S : Nat → Prop) (v : Value) (st : List UInt8 × Nat × Int) (en : Ending) (w' : World) : Prop := en = .returned v ∧ RrStep w g S w' st.1 st.2.1 st.2.2

theorem RPost.ok {α : Type} {w w1 : World} {g : Nat} {S : Nat → Prop} {l : List UInt8} {p : Nat} (zero : α) (parse : List UInt8 → α × Nat × Int) (V : α → Value) {en : Ending} {w' : World} (hf : Fr Nothing w w1) (_hg : g < w.heap.size)
    (h : ReadPost w1 g S l p (V (parse l).1) (V zero) (parse l).2.1 (parse l).2.2 en w') : RPost w g S (V (rStep zero parse (l, p, 0)).1) (rStep zero parse (l, p, 0)).2 en w' := by
  have hfr : ∀ {w2 : World}, Fr (Only g) w1 w2 → Fr (Only g) w w2 := fun h => (hf.weak).trans h
  by_cases he : (parse l).2.2 = 0
  · obtain ⟨h1, h2⟩ := h.2 he
    have e : rStep zero parse (l, p, 0) = ((parse l).1, (l.drop (parse l).2.1, p + (parse l).2.1, 0)) := by simp [rStep, he]
    rw [e]
    exact ⟨h1, h2.rr, hfr h2.fr⟩
  · obtain ⟨h1, h2⟩ := h.1 he
    have e : rStep zero parse (l, p, 0) = (zero, (l, p, (parse l).2.2)) := by simp [rStep, he]
    rw [e]
    exact ⟨h1, h2.rr, hfr h2.fr⟩

theorem RPost.bad {α : Type} {w w1 : World} {g : Nat} {S : Nat → Prop} {l : List UInt8} {p : Nat} {f : Int} (zero : α) (parse : List UInt8 → α × Nat × Int) (V : α → Value) {en : Ending} (hf : Fr Nothing w w1) (h : Rr w g S l p f) (hne : f ≠ 0) (he : en = .returned (V zero)) :
    RPost w g S (V (rStep zero parse (l, p, f)).1) (rStep zero parse (l, p, f)).2 en w1 := by
  have e : rStep zero parse (l, p, f) = (zero, (l, p, f)) := by simp [rStep, hne]
  rw [e]
  exact ⟨he, h.keep0 hf, hf.weak⟩

theorem Rr.lt {w : World} {g : Nat} {S : Nat → Prop} {l : List UInt8} {p : Nat} {f : Int} (h : Rr w g S l p f) : g < w.heap.size := by
  obtain ⟨⟨_, _, _, hb, _⟩, _⟩ := h
  exact hb.lt

theorem callNumber : ∀ args w, (callFunc 61 args).run Tryd.prog w = .ok (.enter 61 args) w := fun _ _ => by kernel_rfl

theorem callText : ∀ args w, (callFunc 58 args).run Tryd.prog w = .ok (.enter 58 args) w := fun _ _ => by kernel_rfl

set_option maxHeartbeats 1000000 in
theorem Number1_any (A : Option Addr) (n c b : Nat) (l : List UInt8) (most : Int) (w : World) (S : Nat → Prop) (hr : Rd w S 1 A n (l.map bv)) (hn : n ≤ 1099511627776) (hb : w.cell? ⟨b, 0, none⟩ = some (.int .i64 most)) :
    Calls Tryd.prog 61 #[.slice A n c, .pointer (some ⟨b, 0, none⟩)] w fun e w' => e = .returned (.tuple #[.int .i64 (pNumber most l).1, .int .i64 ((pNumber most l).2.1 : Nat), .int .i64 (pNumber most l).2.2]) ∧ w = w' := by
  have hp := Parse_any A n c l w S hr hn
  have hb9 := pn_lt9 l
  have hc : (pn l 9).2.2 = 0 ∨ (pn l 9).2.2 ≠ 0 := by omega
  unfold pNumber
  generalize (pn l 9).1 = a1 at hp hb9 hc ⊢
  generalize (pn l 9).2.1 = a2 at hp hc ⊢
  generalize (pn l 9).2.2 = a3 at hp hc ⊢
  have HP := Lib.hid hp
  clear hp hr
  rcases hc with rfl | hne
  · by_cases hm : most < (a1 : Int)
    · rw [if_pos ⟨rfl, hm⟩]
      go_enter Tryd.func61, Tryd.ntmps61
      go_wp2_with fail
      refine HP.out.mono ?_
      rintro e w1 ⟨rfl, rfl⟩
      go_wp2
      go_ret3
      exact ⟨rfl, rfl⟩
    · rw [if_neg (fun h => hm h.2)]
      go_enter Tryd.func61, Tryd.ntmps61
      go_wp2_with fail
      refine HP.out.mono ?_
      rintro e w1 ⟨rfl, rfl⟩
      go_wp2
      go_ret3
      exact ⟨rfl, rfl⟩
  · have hne' : ((a3 : Int) == 0) = false := beq_eq_false_iff_ne.2 (by omega)
    rw [if_neg (fun h => hne h.1)]
    clear hne
    go_enter Tryd.func61, Tryd.ntmps61
    go_wp2_with fail
    refine HP.out.mono ?_
    rintro e w1 ⟨rfl, rfl⟩
    go_wp2
    go_ret3
    exact ⟨rfl, rfl⟩

theorem unzig_odd (u : Nat) (h : u % 2 = 1) : unzig u = -((u / 2 : Nat) : Int) - 1 := by unfold unzig; rw [if_pos h]
theorem unzig_even (u : Nat) (h : u % 2 = 0) : unzig u = ((u / 2 : Nat) : Int) := by unfold unzig; rw [if_neg (by omega)]

theorem not_i64 (x : Nat) (h : x < 9223372036854775808) : bits .xor .i64 (-1) (x : Int) = -(x : Int) - 1 := by
  show IntKind.i64.wrap ((BitVec.ofInt 64 (-1) ^^^ BitVec.ofInt 64 (x : Int)).toNat : Int) = _
  have e1 : BitVec.ofInt 64 (-1) = BitVec.allOnes 64 := by decide
  rw [e1, BitVec.allOnes_xor, BitVec.toNat_not, ofInt_u64 x (by omega)]
  simp only [IntKind.wrap, IntKind.bits, IntKind.signed]
  simp
  omega

theorem not_i64' (a : Nat) (h : a < 18446744073709551616) : bits .xor .i64 (-1) ((a : Int) / 2) = -((a : Int) / 2) - 1 := by
  have := not_i64 (a / 2) (by omega)
  rw [show ((a / 2 : Nat) : Int) = (a : Int) / 2 by omega] at this
  exact this

theorem run_cut {w : World} {S : Nat → Prop} {A : Option Addr} {n c a m : Nat} {l : List UInt8} (hr : Rd w S 1 A n (l.map bv)) (h : a + m ≤ n) (hc : n ≤ c) (A' : Option Addr) (hA : A' = if c = a then A else A.map (·.add a)) (c' : Nat) :
    (convert 42 9 (.slice A' m c')).run Tryd.prog w = .ok (.string ⟨((l.drop a).take m).toArray⟩) w := by
  subst hA
  have h1 := hr.cutB (k := a) (by omega) hc
  have h2 := h1.take (k := m) (by omega)
  rw [Nat.mul_one, ← List.map_take] at h2
  exact run_strT w S _ m c' _ h2

set_option maxRecDepth 100000 in
set_option maxHeartbeats 1000000 in
theorem Text1_any (A : Option Addr) (n c b : Nat) (l : List UInt8) (most : Int) (w : World) (S : Nat → Prop) (hr : Rd w S 1 A n (l.map bv)) (hn : n ≤ 1099511627776) (hnc : n ≤ c) (hb : w.cell? ⟨b, 0, none⟩ = some (.int .i64 most)) :
    Calls Tryd.prog 58 #[.slice A n c, .pointer (some ⟨b, 0, none⟩)] w fun e w' => e = .returned (.tuple #[.string ⟨(pText most l).1.toArray⟩, .int .i64 ((pText most l).2.1 : Nat), .int .i64 (pText most l).2.2]) ∧ w = w' := by
  have hp := Parse_any A n c l w S hr hn
  have hb9 := pn_lt9 l
  have hsz := (pn_size l 9 (by omega)).2
  have hln : l.length = n := by simpa using hr.1
  have HC := Lib.hid (fun a m h => run_cut (a := a) (m := m) hr h hnc)
  unfold pText
  generalize (pn l 9).1 = a1 at hp hb9 ⊢
  generalize (pn l 9).2.1 = a2 at hp hsz ⊢
  generalize (pn l 9).2.2 = a3 at hp ⊢
  rw [hln] at hsz ⊢
  have HP := Lib.hid hp
  clear hp hr hln
  by_cases h3 : a3 ≠ 0
  · rw [if_pos h3]
    have h3b : ((a3 : Int) != 0) = true := by rw [bne_iff_ne]; omega
    clear h3
    go_enter Tryd.func58, Tryd.ntmps58
    go_wp2_with fail
    refine HP.out.mono ?_
    rintro e w1 ⟨rfl, rfl⟩
    go_wp2
    go_ret3
    exact ⟨rfl, rfl⟩
  · rw [if_neg h3]
    have h30 : a3 = 0 := by omega
    subst h30
    clear h3
    by_cases hm : most < (a1 : Int)
    · rw [if_pos (.inl hm)]
      go_enter Tryd.func58, Tryd.ntmps58
      go_wp2_with fail
      refine HP.out.mono ?_
      rintro e w1 ⟨rfl, rfl⟩
      go_wp2
      go_ret3
      exact ⟨rfl, rfl⟩
    · by_cases hm2 : 16777216 < a1
      · rw [if_pos (.inr hm2)]
        go_enter Tryd.func58, Tryd.ntmps58
        go_wp2_with fail
        refine HP.out.mono ?_
        rintro e w1 ⟨rfl, rfl⟩
        go_wp2
        go_ret3
        exact ⟨rfl, rfl⟩
      · rw [if_neg (by omega)]
        by_cases hlen : n < a2 + a1
        · rw [if_pos hlen]
          go_enter Tryd.func58, Tryd.ntmps58
          go_wp2_with fail
          refine HP.out.mono ?_
          rintro e w1 ⟨rfl, rfl⟩
          go_wp2
          go_ret3
          exact ⟨rfl, rfl⟩
        · rw [if_neg hlen]
          by_cases hca : c = a2
          · subst hca
            have hcv := HC.out c a1 (by omega) A (by simp) 0
            clear HC
            go_enter Tryd.func58, Tryd.ntmps58
            go_wp2_with fail
            refine HP.out.mono ?_
            rintro e w1 ⟨rfl, rfl⟩
            go_wp2
            go_ret3
            exact ⟨rfl, rfl⟩
          · have hcv := HC.out a2 a1 (by omega) (A.map (·.add a2)) (by rw [if_neg hca]) (c - a2)
            clear HC
            go_enter Tryd.func58, Tryd.ntmps58
            go_wp2_with fail
            refine HP.out.mono ?_
            rintro e w1 ⟨rfl, rfl⟩
            go_wp2
            go_ret3
            exact ⟨rfl, rfl⟩

theorem pNumber_size (most : Int) (l : List UInt8) : (pNumber most l).2.1 ≤ l.length := (pn_size l 9 (by omega)).2
theorem pSigned_size (l : List UInt8) : (pSigned l).2.1 ≤ l.length := (pn_size l 10 (by omega)).2
theorem pFlag_size (l : List UInt8) : (pFlag l).2.1 ≤ l.length := by
  unfold pFlag
  repeat' split
  all_goals simp only
  all_goals omega
theorem pText_size (most : Int) (l : List UInt8) : (pText most l).2.1 ≤ l.length := by
  unfold pText
  repeat' split
  all_goals simp only
  all_goals omega

theorem Rr.n_le {w : World} {g : Nat} {S : Nat → Prop} {l : List UInt8} {p : Nat} {f : Int} (h : Rr w g S l p f) {A : Option Addr} {n : Nat} {w' : World} (hr : Rd w' S 1 A n (l.map bv)) : n ≤ 1099511627776 := by
  have := hr.1
  have := h.small
  simp at *
  omega

theorem arr_app1 (x y : Value) : (#[x] ++ #[y] : Array Value) = #[x, y] := rfl
theorem arr_app0 (x : Value) : (#[x] ++ #[] : Array Value) = #[x] := rfl

def tV (l : List UInt8) : Value := .string ⟨l.toArray⟩

set_option maxHeartbeats 1000000 in
theorem rdNumber_any (g : Nat) (S : Nat → Prop) (l : List UInt8) (p : Nat) (f : Int) (most : Int) (w : World) (h : Rr w g S l p f) :
    Calls Tryd.prog 44 #[.pointer (some ⟨g, 0, none⟩), .int .i64 most] w (RPost w g S (Value.int .i64 (rStep 0 (pNumber most) (l, p, f)).1) (rStep 0 (pNumber most) (l, p, f)).2) := by
  have HH := Lib.hid h
  clear h
  have HA := Lib.hid ((Fr.refl Nothing w).alloc (.cells #[.int .i64 most] 3))
  by_cases hf : f = 0
  · subst hf
    go_enter Tryd.func44, Tryd.ntmps44
    go_wp2_with fail
    have HCL : Hid (∀ A n c, Rd (w.alloc (.cells #[.int .i64 most] 3)) S 1 A n (l.map bv) → n ≤ c → Calls Tryd.prog 61 (#[.slice A n c] ++ #[.pointer (some ⟨w.heap.size, 0, none⟩)]) (w.alloc (.cells #[.int .i64 most] 3)) fun en w' => en = .returned (.tuple #[.int .i64 (pNumber most l).1, .int .i64 ((pNumber most l).2.1 : Nat), .int .i64 (pNumber most l).2.2]) ∧ w.alloc (.cells #[.int .i64 most] 3) = w') := by
      intro A n c hr hnc
      rw [arr_app1]
      exact Number1_any A n c w.heap.size l most _ S hr (HH.out.n_le hr) ((Blk.new w _ _).cell 0)
    refine (readInt_ok g S l p 61 #[.pointer (some ⟨w.heap.size, 0, none⟩)] (w.alloc (.cells #[.int .i64 most] 3)) (HH.out.keep0 HA.out) (pNumber most l).1 (pNumber most l).2.1 (pNumber most l).2.2 (pNumber_size most l) callNumber HCL.out).mono ?_
    rintro e w1 h1
    have HP := Lib.hid (RPost.ok 0 (pNumber most) (Value.int .i64) HA.out HH.out.lt h1)
    obtain ⟨rfl, _⟩ := HP.out
    clear h1
    go_wp2
    go_ret
    exact HP.out
  · have HF := Lib.hid hf
    clear hf
    go_enter Tryd.func44, Tryd.ntmps44
    go_wp2_with fail
    refine (readInt_bad g S l p f _ _ (HH.out.keep0 HA.out) HF.out).mono ?_
    rintro e w1 ⟨rfl, rfl⟩
    go_wp2
    go_ret
    exact RPost.bad 0 (pNumber most) (Value.int .i64) HA.out HH.out HF.out rfl

set_option maxHeartbeats 1000000 in
theorem rText_any (g : Nat) (S : Nat → Prop) (l : List UInt8) (p : Nat) (f : Int) (most : Int) (w : World) (h : Rr w g S l p f) :
    Calls Tryd.prog 43 #[.pointer (some ⟨g, 0, none⟩), .int .i64 most] w (RPost w g S (tV (rStep [] (pText most) (l, p, f)).1) (rStep [] (pText most) (l, p, f)).2) := by
  have HH := Lib.hid h
  clear h
  have HA := Lib.hid ((Fr.refl Nothing w).alloc (.cells #[.int .i64 most] 3))
  by_cases hf : f = 0
  · subst hf
    go_enter Tryd.func43, Tryd.ntmps43
    go_wp2_with fail
    have HCL : Hid (∀ A n c, Rd (w.alloc (.cells #[.int .i64 most] 3)) S 1 A n (l.map bv) → n ≤ c → Calls Tryd.prog 58 (#[.slice A n c] ++ #[.pointer (some ⟨w.heap.size, 0, none⟩)]) (w.alloc (.cells #[.int .i64 most] 3)) fun en w' => en = .returned (.tuple #[.string ⟨(pText most l).1.toArray⟩, .int .i64 ((pText most l).2.1 : Nat), .int .i64 (pText most l).2.2]) ∧ w.alloc (.cells #[.int .i64 most] 3) = w') := by
      intro A n c hr hnc
      rw [arr_app1]
      exact Text1_any A n c w.heap.size l most _ S hr (HH.out.n_le hr) hnc ((Blk.new w _ _).cell 0)
    refine (readString_ok g S l p 58 #[.pointer (some ⟨w.heap.size, 0, none⟩)] (w.alloc (.cells #[.int .i64 most] 3)) (HH.out.keep0 HA.out) ⟨(pText most l).1.toArray⟩ (pText most l).2.1 (pText most l).2.2 (pText_size most l) callText HCL.out).mono ?_
    rintro e w1 h1
    have HP := Lib.hid (RPost.ok [] (pText most) tV HA.out HH.out.lt h1)
    obtain ⟨rfl, _⟩ := HP.out
    clear h1
    go_wp2
    go_ret
    exact HP.out
  · have HF := Lib.hid hf
    clear hf
    go_enter Tryd.func43, Tryd.ntmps43
    go_wp2_with fail
    refine (readString_bad g S l p f _ _ (HH.out.keep0 HA.out) HF.out).mono ?_
    rintro e w1 ⟨rfl, rfl⟩
    go_wp2
    go_ret
    exact RPost.bad [] (pText most) tV HA.out HH.out HF.out rfl

/-- A new Reader: its block is the last one of the new world's. -/
def RrNew (w : World) (l : List UInt8) (e : Ending) (w' : World) : Prop := ∃ g S, e = .returned (.pointer (some ⟨g, 0, none⟩)) ∧ Rr w' g S l 0 0 ∧ Fr Nothing w w' ∧ w.heap.size ≤ g ∧ ∀ k, S k → w.heap.size ≤ k ∧ k < w'.heap.size

set_option maxHeartbeats 1000000 in
theorem NewReader_any (A : Option Addr) (n c : Nat) (l : List UInt8) (w : World) (S : Nat → Prop) (hr : Rd w S 1 A n (l.map bv)) (hn : n ≤ 1099511627776) : Calls Tryd.prog 42 #[.slice A n c] w (RrNew w l) := by
  have hln : l.length = n := by simpa using hr.1
  have HL := Lib.hid hln
  have HC := Lib.hid (Clone_any A n c l w S hr hn)
  clear hln hr
  go_enter Tryd.func42, Tryd.ntmps42
  go_wp2_with fail
  refine HC.out.mono ?_
  rintro e w1 ⟨v1, rfl, hg1⟩
  obtain ⟨A1, n1, c1, rfl, H1, H1c⟩ := own_slice hg1.own
  have HG := Lib.hid hg1
  clear hg1
  go_wp2
  go_ret
  have hR := OwnB.rd HG.out.own H1.out
  refine ⟨w1.heap.size, Rows1 (.slice A1 n1 c1), rfl, ⟨⟨A1, n1, c1, Blk.new _ _ _, hR.fr0 ((Fr.refl _ _).alloc _), H1c.out⟩, fun h => ?_, ?_⟩, HG.out.fr0.alloc _, HG.out.fr.size, fun k hk => ⟨HG.out.new k hk, by have := (HG.out.own.lt _ hk).2; simp; omega⟩⟩
  · have := (HG.out.own.lt _ h).2; omega
  · have := HL.out; omega

set_option maxHeartbeats 1000000 in
theorem rClose_any (g : Nat) (S : Nat → Prop) (l : List UInt8) (p : Nat) (f : Int) (w : World) (h : Rr w g S l p f) :
    Calls Tryd.prog 45 #[.pointer (some ⟨g, 0, none⟩)] w fun e w' => e = .returned (.int .i64 (if f = 0 then (if 0 < l.length then 5 else 0) else f)) ∧ w = w' := by
  obtain ⟨⟨A, n, c, hb, hr, hnc⟩, hfar, hsm⟩ := h
  have hln : l.length = n := by simpa using hr.1
  have hc0 : w.cell? ⟨g, 0, none⟩ = some (.slice A n c) := hb.cell 0
  have hc2 : w.cell? ⟨g, 2, none⟩ = some (.int .i64 f) := hb.cell 2
  rw [hln]
  clear hb hr hln
  by_cases hf : f = 0
  · subst hf
    rw [if_pos rfl]
    by_cases hn : 0 < n
    · rw [if_pos hn]
      go_enter Tryd.func45, Tryd.ntmps45
      go_wp2
      go_ret
      exact ⟨rfl, rfl⟩
    · rw [if_neg hn]
      go_enter Tryd.func45, Tryd.ntmps45
      go_wp2
      go_ret
      exact ⟨rfl, rfl⟩
  · rw [if_neg hf]
    have hfb : (f != 0) = true := by rw [bne_iff_ne]; exact hf
    clear hf
    go_enter Tryd.func45, Tryd.ntmps45
    go_wp2
    go_ret
    exact ⟨rfl, rfl⟩
end Go.Proofs.YtfdcmjjafngonaaDoor
