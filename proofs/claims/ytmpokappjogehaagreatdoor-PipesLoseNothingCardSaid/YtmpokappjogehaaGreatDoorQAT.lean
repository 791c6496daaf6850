/- Steps of the proof of LawPipesLoseNothing: contracts of the functions that the law reaches, for every world that holds what each of them asks. -/
import Derived.Test.YtmpokappjogehaaGreatDoorQAR
import Derived.Test.YtmpokappjogehaaGreatDoorQAS
import Derived.Lib.ConvBytes
import Derived.Deep.DeepCutAuto
set_option linter.unusedVariables false
set_option linter.unusedSimpArgs false
namespace Go.Proofs.YtmpokappjogehaaGreatDoor
open Go.RowKit

def textB (l : List UInt8) : List UInt8 := enc l.length ++ l
def flagB (b : Bool) : List UInt8 := [if b then 1 else 0]
theorem textB_str (s : ByteArray) : enc s.size ++ strL s = textB (strL s) := by rw [textB, strL_length]
theorem blk_apart {w : World} {g g' : Nat} {t t' : TypeId} {cs cs' : Array Value} (h : Blk w g t cs) (h' : Blk w g' t' cs') (hne : t ≠ t') : g ≠ g' := by
  rintro rfl
  have e := h.symm.trans h'
  simp only [Option.some.injEq, Obj.cells.injEq] at e
  exact hne e.2.1

/-- A writer that was made in this call and has written l. -/
structure Wi (w0 W : World) (gw : Nat) (l : List UInt8) : Prop where
  fr : Fr Nothing w0 W
  wr : ∃ v, Wr W gw v l 0 ∧ ∀ k, v.ownBlock = some k → w0.heap.size ≤ k
  new : w0.heap.size ≤ gw
/-- Blocks of other types than a writer's stand. -/
def KeepW (W W' : World) : Prop := ∀ g t cs, Blk W g t cs → t ≠ 301 → t ≠ 5 → Blk W' g t cs
theorem KeepW.of {W W' : World} (h : Fr Nothing W W') : KeepW W W' := fun _ _ _ hb _ _ => hb.fr h (fun x => x)
theorem KeepW.trans {W W' W'' : World} (h : KeepW W W') (k : KeepW W' W'') : KeepW W W'' := fun g t cs hb h1 h2 => k g t cs (h g t cs hb h1 h2) h1 h2
theorem Wi.later {w0 W W' : World} {gw : Nat} {l : List UInt8} (h : Wi w0 W gw l) (f : Fr Nothing W W') : Wi w0 W' gw l := by
  obtain ⟨v, h1, h2⟩ := h.wr
  exact ⟨h.fr.trans f, ⟨v, h1.far f (fun _ _ x => x), h2⟩, h.new⟩
def WroteW (w0 W : World) (gw : Nat) (l : List UInt8) (e : Ending) (W' : World) : Prop := e = .returned (.tuple #[]) ∧ Wi w0 W' gw l ∧ KeepW W W'
theorem Wi.step {w0 W W' : World} {gw : Nat} {l l' : List UInt8} {v v' : Value} (h : Wi w0 W gw l) (hw : Wr W gw v l 0) (hl : ∀ k, v.ownBlock = some k → w0.heap.size ≤ k) (st : WrStep W gw v W' v' (l', 0)) : Wi w0 W' gw l' ∧ KeepW W W' := by
  refine ⟨⟨h.fr.then_ st.fr (fun i hi e => ?_), ⟨v', st.wr, fun k hk => ?_⟩, h.new⟩, fun g t cs hb h1 h2 => hb.fr st.fr (fun e => ?_)⟩
  · rcases e with e | e
    · have := h.new
      omega
    · have := hl i e
      omega
  · rcases st.lies k hk with e | e
    · exact hl k e
    · exact Nat.le_trans h.fr.size e
  · rcases e with e | e
    · exact blk_apart hb hw.blk h1 e
    · exact own_blk_ne hw.own hb (fun x => h2 x.symm) e
theorem Wi.number {w0 W : World} {gw : Nat} {l : List UInt8} (h : Wi w0 W gw l) (n : Nat) (hl : l.length ≤ 1099511627776) (hn : n ≤ 9223372036854775807) :
    Calls Tryz.prog 183 #[.pointer (some ⟨gw, 0, none⟩), .int .i64 (n : Int)] W (WroteW w0 W gw (l ++ enc n)) := by
  obtain ⟨v, h1, h2⟩ := h.wr
  refine (wNumber_any gw v l 0 (n : Int) W h1 hl (by omega)).mono ?_
  rintro e w' ⟨rfl, v', st⟩
  rw [wNumber_pos] at st
  exact ⟨rfl, h.step h1 h2 st⟩
theorem Wi.text {w0 W : World} {gw : Nat} {l : List UInt8} (h : Wi w0 W gw l) (s : ByteArray) (hl : l.length ≤ 1099511627776) (hs : s.size ≤ 16777216) :
    Calls Tryz.prog 184 #[.pointer (some ⟨gw, 0, none⟩), .string s] W (WroteW w0 W gw (l ++ textB (strL s))) := by
  obtain ⟨v, h1, h2⟩ := h.wr
  refine (wText_any gw v l 0 s W h1 hl (by omega)).mono ?_
  rintro e w' ⟨rfl, v', st⟩
  rw [wText_small _ _ (by omega), textB_str] at st
  exact ⟨rfl, h.step h1 h2 st⟩
theorem Wi.flag {w0 W : World} {gw : Nat} {l : List UInt8} (h : Wi w0 W gw l) (b : Bool) (hl : l.length ≤ 1099511627776) :
    Calls Tryz.prog 270 #[.pointer (some ⟨gw, 0, none⟩), .bool b] W (WroteW w0 W gw (l ++ flagB b)) := by
  obtain ⟨v, h1, h2⟩ := h.wr
  refine (wFlag_any gw v l 0 b W h1 hl).mono ?_
  rintro e w' ⟨rfl, v', st⟩
  have e1 : wFlag (l, 0) b = (l ++ flagB b, 0) := by unfold wFlag; rw [if_pos rfl]; rfl
  rw [e1] at st
  exact ⟨rfl, h.step h1 h2 st⟩
theorem Wi.start {w0 W : World} (h : Fr Nothing w0 W) :
    Calls Tryz.prog 182 #[] W (fun e W' => e = .returned (.pointer (some ⟨W.heap.size, 0, none⟩)) ∧ Wi w0 W' W.heap.size [] ∧ Fr Nothing W W') := by
  refine (NewWriter_any W).mono ?_
  rintro e w' ⟨rfl, h1, h2⟩
  exact ⟨rfl, ⟨h.trans h2, ⟨_, h1, fun k hk => by simp [Value.ownBlock] at hk⟩, h.size⟩, h2⟩
end Go.Proofs.YtmpokappjogehaaGreatDoor

/- codec.Reader: its blocks, and read[T] over whatever parser. -/
namespace Go.Proofs.YtmpokappjogehaaGreatDoor
open Go.RowKit

/-- Block g is a Reader that has l left, has read p bytes and holds the error f; its bytes lie in blocks of S. -/
structure Rr (w : World) (g : Nat) (S : Nat → Prop) (l : List UInt8) (p : Nat) (f : Int) : Prop where
  ex : ∃ A n c, Blk w g 317 #[.slice A n c, .int .i64 p, .int .i64 f] ∧ Rd w S 1 A n (l.map bv) ∧ n ≤ c
  far : ¬ S g
  small : p + l.length ≤ 1099511627776

def Only (g : Nat) : Nat → Prop := fun k => k = g

structure RrStep (w : World) (g : Nat) (S : Nat → Prop) (w' : World) (l : List UInt8) (p : Nat) (f : Int) : Prop where
  rr : Rr w' g S l p f
  fr : Fr (Only g) w w'

theorem Rr.keep {w w' : World} {g : Nat} {S T : Nat → Prop} {l : List UInt8} {p : Nat} {f : Int} (h : Rr w g S l p f) (hf : Fr T w w') (h1 : ¬ T g) (h2 : ∀ k, S k → ¬ T k) : Rr w' g S l p f := by
  obtain ⟨⟨A, n, c, hb, hr, hnc⟩, hfar, hsm⟩ := h
  exact ⟨⟨A, n, c, hb.fr hf h1, hr.fr hf h2, hnc⟩, hfar, hsm⟩

theorem Rr.keep0 {w w' : World} {g : Nat} {S : Nat → Prop} {l : List UInt8} {p : Nat} {f : Int} (h : Rr w g S l p f) (hf : Fr Nothing w w') : Rr w' g S l p f := h.keep hf (fun x => x) (fun _ _ x => x)

theorem RrStep.fail {w : World} {g : Nat} {S : Nat → Prop} {l : List UInt8} {p : Nat} {f : Int} (h : Rr w g S l p f) (e : Int) : RrStep w g S (w.setCell ⟨g, 2, none⟩ (.int .i64 e)) l p e := by
  obtain ⟨⟨A, n, c, hb, hr, hnc⟩, hfar, hsm⟩ := h
  have hf : Fr (Only g) w (w.setCell ⟨g, 2, none⟩ (.int .i64 e)) := (Fr.refl (Only g) _).setCell (p := ⟨g, 2, none⟩) (fun _ => (rfl : Only g g)) _
  exact ⟨⟨⟨A, n, c, by simpa using hb.set_ 2 (.int .i64 e), hr.fr hf (fun k hk e => hfar (e ▸ hk)), hnc⟩, hfar, hsm⟩, hf⟩

theorem Rd.cutB {w : World} {S : Nat → Prop} {A : Option Addr} {n k c : Nat} {l : List UInt8} (h : Rd w S 1 A n (l.map bv)) (hk : k ≤ n) (hc : n ≤ c) :
    Rd w S 1 (if c = k then A else A.map (·.add k)) (n - k) ((l.drop k).map bv) := by
  have := h.cut hk hc
  rw [Nat.mul_one, ← List.map_drop] at this
  exact this

theorem RrStep.read {w : World} {g : Nat} {S : Nat → Prop} {l : List UInt8} {p : Nat} {A : Option Addr} {n c size : Nat} (hb : Blk w g 317 #[.slice A n c, .int .i64 p, .int .i64 0]) (hr : Rd w S 1 A n (l.map bv)) (hnc : n ≤ c) (hfar : ¬ S g) (hsm : p + l.length ≤ 1099511627776) (hs : size ≤ l.length)
    {A' : Option Addr} {n' c' : Nat} (hA : A' = if c = size then A else A.map (·.add size)) (hn : n' = n - size) (hc' : c' = c - size) :
    RrStep w g S ((w.setCell ⟨g, 0, none⟩ (.slice A' n' c')).setCell ⟨g, 1, none⟩ (.int .i64 ((p : Int) + (size : Int)))) (l.drop size) (p + size) 0 := by
  have hln : l.length = n := by simpa using hr.1
  have hf : Fr (Only g) w ((w.setCell ⟨g, 0, none⟩ (.slice A' n' c')).setCell ⟨g, 1, none⟩ (.int .i64 ((p : Int) + (size : Int)))) := ((Fr.refl (Only g) _).setCell (p := ⟨g, 0, none⟩) (fun _ => (rfl : Only g g)) _).setCell (p := ⟨g, 1, none⟩) (fun _ => (rfl : Only g g)) _
  subst hA hn hc'
  refine ⟨⟨⟨_, _, _, by simpa [Int.natCast_add] using (hb.set_ 0 (.slice (if c = size then A else A.map (·.add size)) (n - size) (c - size))).set_ 1 (.int .i64 ((p : Int) + (size : Int))), (hr.cutB (by omega) hnc).fr hf (fun k hk e => hfar (e ▸ hk)), by omega⟩, hfar, by simp; omega⟩, hf⟩

/-- What reading one value does. -/
def ReadPost (w : World) (g : Nat) (S : Nat → Prop) (l : List UInt8) (p : Nat) (val zero : Value) (size : Nat) (e : Int) (en : Ending) (w' : World) : Prop :=
  (e ≠ 0 → en = .returned zero ∧ RrStep w g S w' l p e) ∧ (e = 0 → en = .returned val ∧ RrStep w g S w' (l.drop size) (p + size) 0)

set_option maxRecDepth 100000 in
set_option maxHeartbeats 1000000 in
theorem readInt_ok (g : Nat) (S : Nat → Prop) (l : List UInt8) (p : Nat) (fid : Nat) (caps : Array Value) (w : World) (h : Rr w g S l p 0)
    (x : Int) (size : Nat) (e : Int) (hs : size ≤ l.length) (hcall : ∀ args w, (callFunc fid args).run Tryz.prog w = .ok (.enter fid args) w)
    (hc : ∀ A n c, Rd w S 1 A n (l.map bv) → n ≤ c → Calls Tryz.prog fid (#[.slice A n c] ++ caps) w fun en w' => en = .returned (.tuple #[.int .i64 x, .int .i64 size, .int .i64 e]) ∧ w = w') :
    Calls Tryz.prog 272 #[.pointer (some ⟨g, 0, none⟩), .func (.func fid) #[] caps] w (ReadPost w g S l p (.int .i64 x) (.int .i64 0) size e) := by
  obtain ⟨⟨A, n, c, hb, hr, hnc⟩, hfar, hsm⟩ := h
  have hln : l.length = n := by simpa using hr.1
  have hc0 : w.cell? ⟨g, 0, none⟩ = some (.slice A n c) := hb.cell 0
  have hc1 : w.cell? ⟨g, 1, none⟩ = some (.int .i64 p) := hb.cell 1
  have hc2 : w.cell? ⟨g, 2, none⟩ = some (.int .i64 0) := hb.cell 2
  have hf0 := hb.frozen 0
  have hf1 := hb.frozen 1
  have hf2 := hb.frozen 2
  have HC := Lib.hid (hc A n c hr hnc)
  have HB := Lib.hid hb
  have HR := Lib.hid hr
  have hsn : size ≤ n := by omega
  have hpn : p + n ≤ 1099511627776 := by omega
  have HL := Lib.hid hln
  clear hc hb hr hln
  by_cases he : e = 0
  · subst he
    go_enter Tryz.func272, Tryz.ntmps272
    go_wp2_with fail
    refine HC.out.mono ?_
    rintro en w1 ⟨rfl, rfl⟩
    go_wp2
    all_goals
      go_ret
      refine ⟨fun h => absurd rfl h, fun _ => ⟨rfl, ?_⟩⟩
      exact RrStep.read HB.out HR.out hnc hfar hsm hs (by first | rw [if_pos ‹_›] | rw [if_neg ‹_›]) rfl (by omega)
  · have heb : (e != 0) = true := by rw [bne_iff_ne]; exact he
    have HE := Lib.hid he
    clear he
    go_enter Tryz.func272, Tryz.ntmps272
    go_wp2_with fail
    refine HC.out.mono ?_
    rintro en w1 ⟨rfl, rfl⟩
    go_wp2
    go_ret
    exact ⟨fun _ => ⟨rfl, RrStep.fail ⟨⟨A, n, c, HB.out, HR.out, hnc⟩, hfar, hsm⟩ e⟩, fun h => absurd h HE.out⟩

set_option maxRecDepth 100000 in
set_option maxHeartbeats 1000000 in
theorem readInt_bad (g : Nat) (S : Nat → Prop) (l : List UInt8) (p : Nat) (f : Int) (fv : Value) (w : World) (h : Rr w g S l p f) (hf : f ≠ 0) :
    Calls Tryz.prog 272 #[.pointer (some ⟨g, 0, none⟩), fv] w fun en w' => en = .returned (.int .i64 0) ∧ w = w' := by
  obtain ⟨⟨A, n, c, hb, hr, hnc⟩, hfar, hsm⟩ := h
  have hc2 : w.cell? ⟨g, 2, none⟩ = some (.int .i64 f) := hb.cell 2
  have hfb : (f != 0) = true := by rw [bne_iff_ne]; exact hf
  clear hb hr hf
  go_enter Tryz.func272, Tryz.ntmps272
  go_wp2
  go_ret
  exact ⟨rfl, rfl⟩

set_option maxRecDepth 100000 in
set_option maxHeartbeats 1000000 in
theorem readBool_ok (g : Nat) (S : Nat → Prop) (l : List UInt8) (p : Nat) (fid : Nat) (caps : Array Value) (w : World) (h : Rr w g S l p 0)
    (x : Bool) (size : Nat) (e : Int) (hs : size ≤ l.length) (hcall : ∀ args w, (callFunc fid args).run Tryz.prog w = .ok (.enter fid args) w)
    (hc : ∀ A n c, Rd w S 1 A n (l.map bv) → n ≤ c → Calls Tryz.prog fid (#[.slice A n c] ++ caps) w fun en w' => en = .returned (.tuple #[.bool x, .int .i64 size, .int .i64 e]) ∧ w = w') :
    Calls Tryz.prog 277 #[.pointer (some ⟨g, 0, none⟩), .func (.func fid) #[] caps] w (ReadPost w g S l p (.bool x) (.bool false) size e) := by
  obtain ⟨⟨A, n, c, hb, hr, hnc⟩, hfar, hsm⟩ := h
  have hln : l.length = n := by simpa using hr.1
  have hc0 : w.cell? ⟨g, 0, none⟩ = some (.slice A n c) := hb.cell 0
  have hc1 : w.cell? ⟨g, 1, none⟩ = some (.int .i64 p) := hb.cell 1
  have hc2 : w.cell? ⟨g, 2, none⟩ = some (.int .i64 0) := hb.cell 2
  have hf0 := hb.frozen 0
  have hf1 := hb.frozen 1
  have hf2 := hb.frozen 2
  have HC := Lib.hid (hc A n c hr hnc)
  have HB := Lib.hid hb
  have HR := Lib.hid hr
  have hsn : size ≤ n := by omega
  have hpn : p + n ≤ 1099511627776 := by omega
  have HL := Lib.hid hln
  clear hc hb hr hln
  by_cases he : e = 0
  · subst he
    go_enter Tryz.func277, Tryz.ntmps277
    go_wp2_with fail
    refine HC.out.mono ?_
    rintro en w1 ⟨rfl, rfl⟩
    go_wp2
    all_goals
      go_ret
      refine ⟨fun h => absurd rfl h, fun _ => ⟨rfl, ?_⟩⟩
      exact RrStep.read HB.out HR.out hnc hfar hsm hs (by first | rw [if_pos ‹_›] | rw [if_neg ‹_›]) rfl (by omega)
  · have heb : (e != 0) = true := by rw [bne_iff_ne]; exact he
    have HE := Lib.hid he
    clear he
    go_enter Tryz.func277, Tryz.ntmps277
    go_wp2_with fail
    refine HC.out.mono ?_
    rintro en w1 ⟨rfl, rfl⟩
    go_wp2
    go_ret
    exact ⟨fun _ => ⟨rfl, RrStep.fail ⟨⟨A, n, c, HB.out, HR.out, hnc⟩, hfar, hsm⟩ e⟩, fun h => absurd h HE.out⟩

set_option maxRecDepth 100000 in
set_option maxHeartbeats 1000000 in
theorem readBool_bad (g : Nat) (S : Nat → Prop) (l : List UInt8) (p : Nat) (f : Int) (fv : Value) (w : World) (h : Rr w g S l p f) (hf : f ≠ 0) :
    Calls Tryz.prog 277 #[.pointer (some ⟨g, 0, none⟩), fv] w fun en w' => en = .returned (.bool false) ∧ w = w' := by
  obtain ⟨⟨A, n, c, hb, hr, hnc⟩, hfar, hsm⟩ := h
  have hc2 : w.cell? ⟨g, 2, none⟩ = some (.int .i64 f) := hb.cell 2
  have hfb : (f != 0) = true := by rw [bne_iff_ne]; exact hf
  clear hb hr hf
  go_enter Tryz.func277, Tryz.ntmps277
  go_wp2
  go_ret
  exact ⟨rfl, rfl⟩

set_option maxRecDepth 100000 in
set_option maxHeartbeats 1000000 in
theorem readString_ok (g : Nat) (S : Nat → Prop) (l : List UInt8) (p : Nat) (fid : Nat) (caps : Array Value) (w : World) (h : Rr w g S l p 0)
    (x : ByteArray) (size : Nat) (e : Int) (hs : size ≤ l.length) (hcall : ∀ args w, (callFunc fid args).run Tryz.prog w = .ok (.enter fid args) w)
    (hc : ∀ A n c, Rd w S 1 A n (l.map bv) → n ≤ c → Calls Tryz.prog fid (#[.slice A n c] ++ caps) w fun en w' => en = .returned (.tuple #[.string x, .int .i64 size, .int .i64 e]) ∧ w = w') :
    Calls Tryz.prog 275 #[.pointer (some ⟨g, 0, none⟩), .func (.func fid) #[] caps] w (ReadPost w g S l p (.string x) (.string ⟨#[]⟩) size e) := by
  obtain ⟨⟨A, n, c, hb, hr, hnc⟩, hfar, hsm⟩ := h
  have hln : l.length = n := by simpa using hr.1
  have hc0 : w.cell? ⟨g, 0, none⟩ = some (.slice A n c) := hb.cell 0
  have hc1 : w.cell? ⟨g, 1, none⟩ = some (.int .i64 p) := hb.cell 1
  have hc2 : w.cell? ⟨g, 2, none⟩ = some (.int .i64 0) := hb.cell 2
  have hf0 := hb.frozen 0
  have hf1 := hb.frozen 1
  have hf2 := hb.frozen 2
  have HC := Lib.hid (hc A n c hr hnc)
  have HB := Lib.hid hb
  have HR := Lib.hid hr
  have hsn : size ≤ n := by omega
  have hpn : p + n ≤ 1099511627776 := by omega
  have HL := Lib.hid hln
  clear hc hb hr hln
  by_cases he : e = 0
  · subst he
    go_enter Tryz.func275, Tryz.ntmps275
    go_wp2_with fail
    refine HC.out.mono ?_
    rintro en w1 ⟨rfl, rfl⟩
    go_wp2
    all_goals
      go_ret
      refine ⟨fun h => absurd rfl h, fun _ => ⟨rfl, ?_⟩⟩
      exact RrStep.read HB.out HR.out hnc hfar hsm hs (by first | rw [if_pos ‹_›] | rw [if_neg ‹_›]) rfl (by omega)
  · have heb : (e != 0) = true := by rw [bne_iff_ne]; exact he
    have HE := Lib.hid he
    clear he
    go_enter Tryz.func275, Tryz.ntmps275
    go_wp2_with fail
    refine HC.out.mono ?_
    rintro en w1 ⟨rfl, rfl⟩
    go_wp2
    go_ret
    exact ⟨fun _ => ⟨rfl, RrStep.fail ⟨⟨A, n, c, HB.out, HR.out, hnc⟩, hfar, hsm⟩ e⟩, fun h => absurd h HE.out⟩

set_option maxRecDepth 100000 in
set_option maxHeartbeats 1000000 in
theorem readString_bad (g : Nat) (S : Nat → Prop) (l : List UInt8) (p : Nat) (f : Int) (fv : Value) (w : World) (h : Rr w g S l p f) (hf : f ≠ 0) :
    Calls Tryz.prog 275 #[.pointer (some ⟨g, 0, none⟩), fv] w fun en w' => en = .returned (.string ⟨#[]⟩) ∧ w = w' := by
  obtain ⟨⟨A, n, c, hb, hr, hnc⟩, hfar, hsm⟩ := h
  have hc2 : w.cell? ⟨g, 2, none⟩ = some (.int .i64 f) := hb.cell 2
  have hfb : (f != 0) = true := by rw [bne_iff_ne]; exact hf
  clear hb hr hf
  go_enter Tryz.func275, Tryz.ntmps275
  go_wp2
  go_ret
  exact ⟨rfl, rfl⟩

end Go.Proofs.YtmpokappjogehaaGreatDoor

/- codec.Reader's methods. -/
namespace Go.Proofs.YtmpokappjogehaaGreatDoor
open Go.RowKit

def pNumber (most : Int) (l : List UInt8) : Int × Nat × Int := ((pn l 9).1, (pn l 9).2.1, if (pn l 9).2.2 = 0 ∧ most < ((pn l 9).1 : Int) then 2 else ((pn l 9).2.2 : Nat))
def unzig (u : Nat) : Int := if u % 2 = 1 then -((u / 2 : Nat) : Int) - 1 else ((u / 2 : Nat) : Int)
def pSigned (l : List UInt8) : Int × Nat × Int := (unzig (pn l 10).1, (pn l 10).2.1, ((pn l 10).2.2 : Nat))
def pFlag (l : List UInt8) : Bool × Nat × Int := if l.length = 0 then (false, 0, 28) else if 1 < (l[0]?.getD 0).toNat then (false, 0, 3) else ((l[0]?.getD 0).toNat == 1, 1, 0)
def pText (most : Int) (l : List UInt8) : List UInt8 × Nat × Int :=
  if (pn l 9).2.2 ≠ 0 then ([], 0, ((pn l 9).2.2 : Nat))
  else if most < ((pn l 9).1 : Int) ∨ 16777216 < (pn l 9).1 then ([], 0, 5)
  else if l.length < (pn l 9).2.1 + (pn l 9).1 then ([], 0, 28)
  else ((l.drop (pn l 9).2.1).take (pn l 9).1, (pn l 9).2.1 + (pn l 9).1, 0)

def rStep {α : Type} (zero : α) (parse : List UInt8 → α × Nat × Int) (st : List UInt8 × Nat × Int) : α × (List UInt8 × Nat × Int) :=
  if st.2.2 ≠ 0 then (zero, st) else if (parse st.1).2.2 ≠ 0 then (zero, (st.1, st.2.1, (parse st.1).2.2)) else ((parse st.1).1, (st.1.drop (parse st.1).2.1, st.2.1 + (parse st.1).2.1, 0))

def RPost (w : World) (g : Nat) (S : Nat → Prop) (v : Value) (st : List UInt8 × Nat × Int) (en : Ending) (w' : World) : Prop := en = .returned v ∧ RrStep w g S w' st.1 st.2.1 st.2.2

theorem RPost.ok {α : Type} {w w1 : World} {g : Nat} {S : Nat → Prop} {l : List UInt8} {p : Nat} (zero : α) (parse : List UInt8 → α × Nat × Int) (V : α → Value) {en : Ending} {w' : World} (hf : Fr Nothing w w1) (_hg : g < w.heap.size)
    (h : ReadPost w1 g S l p (V (parse l).1) (V zero) (parse l).2.1 (parse l).2.2 en w') : RPost w g S (V (rStep zero parse (l, p, 0)).1) (rStep zero parse (l, p, 0)).2 en w' := by
  have hfr : ∀ {w2 : World}, Fr (Only g) w1 w2 → Fr (Only g) w w2 := fun h => (hf.weak).trans h
  by_cases he : (parse l).2.2 = 0
  · obtain ⟨h1, h2⟩ := h.2 he
    have e : rStep zero parse (l, p, 0) = ((parse l).1, (l.drop (parse l).2.1, p + (parse l).2.1, 0)) := by simp [rStep, he]
    rw [e]
    exact ⟨h1, h2.rr, hfr h2.fr⟩
  · obtain ⟨h1, h2⟩ := h.1 he
    have e : rStep zero parse (l, p, 0) = (zero, (l, p, (parse l).2.2)) := by simp [rStep, he]
    rw [e]
    exact ⟨h1, h2.rr, hfr h2.fr⟩

theorem RPost.bad {α : Type} {w w1 : World} {g : Nat} {S : Nat → Prop} {l : List UInt8} {p : Nat} {f : Int} (zero : α) (parse : List UInt8 → α × Nat × Int) (V : α → Value) {en : Ending} (hf : Fr Nothing w w1) (h : Rr w g S l p f) (hne : f ≠ 0) (he : en = .returned (V zero)) :
    RPost w g S (V (rStep zero parse (l, p, f)).1) (rStep zero parse (l, p, f)).2 en w1 := by
  have e : rStep zero parse (l, p, f) = (zero, (l, p, f)) := by simp [rStep, hne]
  rw [e]
  exact ⟨he, h.keep0 hf, hf.weak⟩

theorem Rr.lt {w : World} {g : Nat} {S : Nat → Prop} {l : List UInt8} {p : Nat} {f : Int} (h : Rr w g S l p f) : g < w.heap.size := by
  obtain ⟨⟨_, _, _, hb, _⟩, _⟩ := h
  exact hb.lt

theorem callNumber : ∀ args w, (callFunc 273 args).run Tryz.prog w = .ok (.enter 273 args) w := fun _ _ => by kernel_rfl

theorem callFlag : ∀ args w, (callFunc 278 args).run Tryz.prog w = .ok (.enter 278 args) w := fun _ _ => by kernel_rfl

theorem callText : ∀ args w, (callFunc 276 args).run Tryz.prog w = .ok (.enter 276 args) w := fun _ _ => by kernel_rfl

set_option maxHeartbeats 1000000 in
theorem Number1_any (A : Option Addr) (n c b : Nat) (l : List UInt8) (most : Int) (w : World) (S : Nat → Prop) (hr : Rd w S 1 A n (l.map bv)) (hn : n ≤ 1099511627776) (hb : w.cell? ⟨b, 0, none⟩ = some (.int .i64 most)) :
    Calls Tryz.prog 273 #[.slice A n c, .pointer (some ⟨b, 0, none⟩)] w fun e w' => e = .returned (.tuple #[.int .i64 (pNumber most l).1, .int .i64 ((pNumber most l).2.1 : Nat), .int .i64 (pNumber most l).2.2]) ∧ w = w' := by
  have hp := cParse_any A n c l w S hr hn
  have hb9 := pn_lt9 l
  have hc : (pn l 9).2.2 = 0 ∨ (pn l 9).2.2 ≠ 0 := by omega
  unfold pNumber
  generalize (pn l 9).1 = a1 at hp hb9 hc ⊢
  generalize (pn l 9).2.1 = a2 at hp hc ⊢
  generalize (pn l 9).2.2 = a3 at hp hc ⊢
  have HP := Lib.hid hp
  clear hp hr
  rcases hc with rfl | hne
  · by_cases hm : most < (a1 : Int)
    · rw [if_pos ⟨rfl, hm⟩]
      go_enter Tryz.func273, Tryz.ntmps273
      go_wp2_with fail
      refine HP.out.mono ?_
      rintro e w1 ⟨rfl, rfl⟩
      go_wp2
      go_ret3
      exact ⟨rfl, rfl⟩
    · rw [if_neg (fun h => hm h.2)]
      go_enter Tryz.func273, Tryz.ntmps273
      go_wp2_with fail
      refine HP.out.mono ?_
      rintro e w1 ⟨rfl, rfl⟩
      go_wp2
      go_ret3
      exact ⟨rfl, rfl⟩
  · have hne' : ((a3 : Int) == 0) = false := beq_eq_false_iff_ne.2 (by omega)
    rw [if_neg (fun h => hne h.1)]
    clear hne
    go_enter Tryz.func273, Tryz.ntmps273
    go_wp2_with fail
    refine HP.out.mono ?_
    rintro e w1 ⟨rfl, rfl⟩
    go_wp2
    go_ret3
    exact ⟨rfl, rfl⟩

theorem unzig_odd (u : Nat) (h : u % 2 = 1) : unzig u = -((u / 2 : Nat) : Int) - 1 := by unfold unzig; rw [if_pos h]
theorem unzig_even (u : Nat) (h : u % 2 = 0) : unzig u = ((u / 2 : Nat) : Int) := by unfold unzig; rw [if_neg (by omega)]

theorem not_i64 (x : Nat) (h : x < 9223372036854775808) : bits .xor .i64 (-1) (x : Int) = -(x : Int) - 1 := by
  show IntKind.i64.wrap ((BitVec.ofInt 64 (-1) ^^^ BitVec.ofInt 64 (x : Int)).toNat : Int) = _
  have e1 : BitVec.ofInt 64 (-1) = BitVec.allOnes 64 := by decide
  rw [e1, BitVec.allOnes_xor, BitVec.toNat_not, ofInt_u64 x (by omega)]
  simp only [IntKind.wrap, IntKind.bits, IntKind.signed]
  simp
  omega

theorem not_i64' (a : Nat) (h : a < 18446744073709551616) : bits .xor .i64 (-1) ((a : Int) / 2) = -((a : Int) / 2) - 1 := by
  have := not_i64 (a / 2) (by omega)
  rw [show ((a / 2 : Nat) : Int) = (a : Int) / 2 by omega] at this
  exact this

set_option maxHeartbeats 1000000 in
theorem Flag1_any (A : Option Addr) (n c : Nat) (l : List UInt8) (w : World) (S : Nat → Prop) (hr : Rd w S 1 A n (l.map bv)) (hn : n ≤ 1099511627776) :
    Calls Tryz.prog 278 #[.slice A n c] w fun e w' => e = .returned (.tuple #[.bool (pFlag l).1, .int .i64 ((pFlag l).2.1 : Nat), .int .i64 (pFlag l).2.2]) ∧ w = w' := by
  have hl : l.length = n := by simpa using hr.1
  rw [show pFlag l = if n = 0 then (false, 0, 28) else if 1 < (l[0]?.getD 0).toNat then (false, 0, 3) else ((l[0]?.getD 0).toNat == 1, 1, 0) by unfold pFlag; rw [hl]]
  clear hl
  by_cases h0 : n = 0
  · rw [if_pos h0]
    subst h0
    clear hr
    go_enter Tryz.func278, Tryz.ntmps278
    go_wp2
    go_ret3
    exact ⟨rfl, rfl⟩
  · rw [if_neg h0]
    have hq : ((n : Int) == 0) = false := beq_eq_false_iff_ne.2 (by omega)
    have hpos : 0 < n := by omega
    have hposi : (0 : Int) < (n : Int) := by omega
    obtain ⟨ad, rfl, hc⟩ := hr.byte hpos
    have hc' : w.cell? ad = some (.int .u8 ((l[0]?.getD 0).toNat : Int)) := by simpa [Addr.add] using hc
    clear hr hc h0
    generalize (l[0]?.getD 0).toNat = b at hc' ⊢
    by_cases hb : 1 < b
    · rw [if_pos hb]
      go_enter Tryz.func278, Tryz.ntmps278
      go_wp2
      go_ret3
      exact ⟨rfl, rfl⟩
    · rw [if_neg hb]
      have hbb : (b == 1) = ((b : Int) == 1) := by
        by_cases h1 : b = 1
        · subst h1; rfl
        · rw [beq_eq_false_iff_ne.2 h1, beq_eq_false_iff_ne.2 (by omega)]
      rw [hbb]
      clear hbb
      go_enter Tryz.func278, Tryz.ntmps278
      go_wp2
      go_ret3
      exact ⟨rfl, rfl⟩

theorem run_cut {w : World} {S : Nat → Prop} {A : Option Addr} {n c a m : Nat} {l : List UInt8} (hr : Rd w S 1 A n (l.map bv)) (h : a + m ≤ n) (hc : n ≤ c) (A' : Option Addr) (hA : A' = if c = a then A else A.map (·.add a)) (c' : Nat) :
    (convert 22 9 (.slice A' m c')).run Tryz.prog w = .ok (.string ⟨((l.drop a).take m).toArray⟩) w := by
  subst hA
  have h1 := hr.cutB (k := a) (by omega) hc
  have h2 := h1.take (k := m) (by omega)
  rw [Nat.mul_one, ← List.map_take] at h2
  exact run_strT w S _ m c' _ h2

set_option maxRecDepth 100000 in
set_option maxHeartbeats 1000000 in
theorem Text1_any (A : Option Addr) (n c b : Nat) (l : List UInt8) (most : Int) (w : World) (S : Nat → Prop) (hr : Rd w S 1 A n (l.map bv)) (hn : n ≤ 1099511627776) (hnc : n ≤ c) (hb : w.cell? ⟨b, 0, none⟩ = some (.int .i64 most)) :
    Calls Tryz.prog 276 #[.slice A n c, .pointer (some ⟨b, 0, none⟩)] w fun e w' => e = .returned (.tuple #[.string ⟨(pText most l).1.toArray⟩, .int .i64 ((pText most l).2.1 : Nat), .int .i64 (pText most l).2.2]) ∧ w = w' := by
  have hp := cParse_any A n c l w S hr hn
  have hb9 := pn_lt9 l
  have hsz := (pn_size l 9 (by omega)).2
  have hln : l.length = n := by simpa using hr.1
  have HC := Lib.hid (fun a m h => run_cut (a := a) (m := m) hr h hnc)
  unfold pText
  generalize (pn l 9).1 = a1 at hp hb9 ⊢
  generalize (pn l 9).2.1 = a2 at hp hsz ⊢
  generalize (pn l 9).2.2 = a3 at hp ⊢
  rw [hln] at hsz ⊢
  have HP := Lib.hid hp
  clear hp hr hln
  by_cases h3 : a3 ≠ 0
  · rw [if_pos h3]
    have h3b : ((a3 : Int) != 0) = true := by rw [bne_iff_ne]; omega
    clear h3
    go_enter Tryz.func276, Tryz.ntmps276
    go_wp2_with fail
    refine HP.out.mono ?_
    rintro e w1 ⟨rfl, rfl⟩
    go_wp2
    go_ret3
    exact ⟨rfl, rfl⟩
  · rw [if_neg h3]
    have h30 : a3 = 0 := by omega
    subst h30
    clear h3
    by_cases hm : most < (a1 : Int)
    · rw [if_pos (.inl hm)]
      go_enter Tryz.func276, Tryz.ntmps276
      go_wp2_with fail
      refine HP.out.mono ?_
      rintro e w1 ⟨rfl, rfl⟩
      go_wp2
      go_ret3
      exact ⟨rfl, rfl⟩
    · by_cases hm2 : 16777216 < a1
      · rw [if_pos (.inr hm2)]
        go_enter Tryz.func276, Tryz.ntmps276
        go_wp2_with fail
        refine HP.out.mono ?_
        rintro e w1 ⟨rfl, rfl⟩
        go_wp2
        go_ret3
        exact ⟨rfl, rfl⟩
      · rw [if_neg (by omega)]
        by_cases hlen : n < a2 + a1
        · rw [if_pos hlen]
          go_enter Tryz.func276, Tryz.ntmps276
          go_wp2_with fail
          refine HP.out.mono ?_
          rintro e w1 ⟨rfl, rfl⟩
          go_wp2
          go_ret3
          exact ⟨rfl, rfl⟩
        · rw [if_neg hlen]
          by_cases hca : c = a2
          · subst hca
            have hcv := HC.out c a1 (by omega) A (by simp) 0
            clear HC
            go_enter Tryz.func276, Tryz.ntmps276
            go_wp2_with fail
            refine HP.out.mono ?_
            rintro e w1 ⟨rfl, rfl⟩
            go_wp2
            go_ret3
            exact ⟨rfl, rfl⟩
          · have hcv := HC.out a2 a1 (by omega) (A.map (·.add a2)) (by rw [if_neg hca]) (c - a2)
            clear HC
            go_enter Tryz.func276, Tryz.ntmps276
            go_wp2_with fail
            refine HP.out.mono ?_
            rintro e w1 ⟨rfl, rfl⟩
            go_wp2
            go_ret3
            exact ⟨rfl, rfl⟩

theorem pNumber_size (most : Int) (l : List UInt8) : (pNumber most l).2.1 ≤ l.length := (pn_size l 9 (by omega)).2
theorem pSigned_size (l : List UInt8) : (pSigned l).2.1 ≤ l.length := (pn_size l 10 (by omega)).2
theorem pFlag_size (l : List UInt8) : (pFlag l).2.1 ≤ l.length := by
  unfold pFlag
  repeat' split
  all_goals simp only
  all_goals omega
theorem pText_size (most : Int) (l : List UInt8) : (pText most l).2.1 ≤ l.length := by
  unfold pText
  repeat' split
  all_goals simp only
  all_goals omega

theorem Rr.n_le {w : World} {g : Nat} {S : Nat → Prop} {l : List UInt8} {p : Nat} {f : Int} (h : Rr w g S l p f) {A : Option Addr} {n : Nat} {w' : World} (hr : Rd w' S 1 A n (l.map bv)) : n ≤ 1099511627776 := by
  have := hr.1
  have := h.small
  simp at *
  omega

theorem arr_app1 (x y : Value) : (#[x] ++ #[y] : Array Value) = #[x, y] := rfl
theorem arr_app0 (x : Value) : (#[x] ++ #[] : Array Value) = #[x] := rfl

def tV (l : List UInt8) : Value := .string ⟨l.toArray⟩

set_option maxHeartbeats 1000000 in
theorem rdNumber_any (g : Nat) (S : Nat → Prop) (l : List UInt8) (p : Nat) (f : Int) (most : Int) (w : World) (h : Rr w g S l p f) :
    Calls Tryz.prog 202 #[.pointer (some ⟨g, 0, none⟩), .int .i64 most] w (RPost w g S (Value.int .i64 (rStep 0 (pNumber most) (l, p, f)).1) (rStep 0 (pNumber most) (l, p, f)).2) := by
  have HH := Lib.hid h
  clear h
  have HA := Lib.hid ((Fr.refl Nothing w).alloc (.cells #[.int .i64 most] 3))
  by_cases hf : f = 0
  · subst hf
    go_enter Tryz.func202, Tryz.ntmps202
    go_wp2_with fail
    have HCL : Hid (∀ A n c, Rd (w.alloc (.cells #[.int .i64 most] 3)) S 1 A n (l.map bv) → n ≤ c → Calls Tryz.prog 273 (#[.slice A n c] ++ #[.pointer (some ⟨w.heap.size, 0, none⟩)]) (w.alloc (.cells #[.int .i64 most] 3)) fun en w' => en = .returned (.tuple #[.int .i64 (pNumber most l).1, .int .i64 ((pNumber most l).2.1 : Nat), .int .i64 (pNumber most l).2.2]) ∧ w.alloc (.cells #[.int .i64 most] 3) = w') := by
      intro A n c hr hnc
      rw [arr_app1]
      exact Number1_any A n c w.heap.size l most _ S hr (HH.out.n_le hr) ((Blk.new w _ _).cell 0)
    refine (readInt_ok g S l p 273 #[.pointer (some ⟨w.heap.size, 0, none⟩)] (w.alloc (.cells #[.int .i64 most] 3)) (HH.out.keep0 HA.out) (pNumber most l).1 (pNumber most l).2.1 (pNumber most l).2.2 (pNumber_size most l) callNumber HCL.out).mono ?_
    rintro e w1 h1
    have HP := Lib.hid (RPost.ok 0 (pNumber most) (Value.int .i64) HA.out HH.out.lt h1)
    obtain ⟨rfl, _⟩ := HP.out
    clear h1
    go_wp2
    go_ret
    exact HP.out
  · have HF := Lib.hid hf
    clear hf
    go_enter Tryz.func202, Tryz.ntmps202
    go_wp2_with fail
    refine (readInt_bad g S l p f _ _ (HH.out.keep0 HA.out) HF.out).mono ?_
    rintro e w1 ⟨rfl, rfl⟩
    go_wp2
    go_ret
    exact RPost.bad 0 (pNumber most) (Value.int .i64) HA.out HH.out HF.out rfl

set_option maxHeartbeats 1000000 in
theorem rText_any (g : Nat) (S : Nat → Prop) (l : List UInt8) (p : Nat) (f : Int) (most : Int) (w : World) (h : Rr w g S l p f) :
    Calls Tryz.prog 203 #[.pointer (some ⟨g, 0, none⟩), .int .i64 most] w (RPost w g S (tV (rStep [] (pText most) (l, p, f)).1) (rStep [] (pText most) (l, p, f)).2) := by
  have HH := Lib.hid h
  clear h
  have HA := Lib.hid ((Fr.refl Nothing w).alloc (.cells #[.int .i64 most] 3))
  by_cases hf : f = 0
  · subst hf
    go_enter Tryz.func203, Tryz.ntmps203
    go_wp2_with fail
    have HCL : Hid (∀ A n c, Rd (w.alloc (.cells #[.int .i64 most] 3)) S 1 A n (l.map bv) → n ≤ c → Calls Tryz.prog 276 (#[.slice A n c] ++ #[.pointer (some ⟨w.heap.size, 0, none⟩)]) (w.alloc (.cells #[.int .i64 most] 3)) fun en w' => en = .returned (.tuple #[.string ⟨(pText most l).1.toArray⟩, .int .i64 ((pText most l).2.1 : Nat), .int .i64 (pText most l).2.2]) ∧ w.alloc (.cells #[.int .i64 most] 3) = w') := by
      intro A n c hr hnc
      rw [arr_app1]
      exact Text1_any A n c w.heap.size l most _ S hr (HH.out.n_le hr) hnc ((Blk.new w _ _).cell 0)
    refine (readString_ok g S l p 276 #[.pointer (some ⟨w.heap.size, 0, none⟩)] (w.alloc (.cells #[.int .i64 most] 3)) (HH.out.keep0 HA.out) ⟨(pText most l).1.toArray⟩ (pText most l).2.1 (pText most l).2.2 (pText_size most l) callText HCL.out).mono ?_
    rintro e w1 h1
    have HP := Lib.hid (RPost.ok [] (pText most) tV HA.out HH.out.lt h1)
    obtain ⟨rfl, _⟩ := HP.out
    clear h1
    go_wp2
    go_ret
    exact HP.out
  · have HF := Lib.hid hf
    clear hf
    go_enter Tryz.func203, Tryz.ntmps203
    go_wp2_with fail
    refine (readString_bad g S l p f _ _ (HH.out.keep0 HA.out) HF.out).mono ?_
    rintro e w1 ⟨rfl, rfl⟩
    go_wp2
    go_ret
    exact RPost.bad [] (pText most) tV HA.out HH.out HF.out rfl

set_option maxHeartbeats 1000000 in
theorem rFlag_any (g : Nat) (S : Nat → Prop) (l : List UInt8) (p : Nat) (f : Int) (w : World) (h : Rr w g S l p f) :
    Calls Tryz.prog 204 #[.pointer (some ⟨g, 0, none⟩)] w (RPost w g S (Value.bool (rStep false pFlag (l, p, f)).1) (rStep false pFlag (l, p, f)).2) := by
  have HH := Lib.hid h
  clear h
  by_cases hf : f = 0
  · subst hf
    go_enter Tryz.func204, Tryz.ntmps204
    go_wp2_with fail
    have HCL : Hid (∀ A n c, Rd w S 1 A n (l.map bv) → n ≤ c → Calls Tryz.prog 278 (#[.slice A n c] ++ #[]) w fun en w' => en = .returned (.tuple #[.bool (pFlag l).1, .int .i64 ((pFlag l).2.1 : Nat), .int .i64 (pFlag l).2.2]) ∧ w = w') := by
      intro A n c hr hnc
      rw [arr_app0]
      exact Flag1_any A n c l _ S hr (HH.out.n_le hr)
    refine (readBool_ok g S l p 278 #[] w HH.out (pFlag l).1 (pFlag l).2.1 (pFlag l).2.2 (pFlag_size l) callFlag HCL.out).mono ?_
    rintro e w1 h1
    have HP := Lib.hid (RPost.ok false pFlag Value.bool (Fr.refl _ _) HH.out.lt h1)
    obtain ⟨rfl, _⟩ := HP.out
    clear h1
    go_wp2
    go_ret
    exact HP.out
  · have HF := Lib.hid hf
    clear hf
    go_enter Tryz.func204, Tryz.ntmps204
    go_wp2_with fail
    refine (readBool_bad g S l p f _ _ HH.out HF.out).mono ?_
    rintro e w1 ⟨rfl, rfl⟩
    go_wp2
    go_ret
    exact RPost.bad false pFlag Value.bool (Fr.refl _ _) HH.out HF.out rfl

/-- A new Reader: its block is the last one of the new world's. -/
def RrNew (w : World) (l : List UInt8) (e : Ending) (w' : World) : Prop := ∃ g S, e = .returned (.pointer (some ⟨g, 0, none⟩)) ∧ Rr w' g S l 0 0 ∧ Fr Nothing w w' ∧ w.heap.size ≤ g ∧ ∀ k, S k → w.heap.size ≤ k ∧ k < w'.heap.size

set_option maxHeartbeats 1000000 in
theorem NewReader_any (A : Option Addr) (n c : Nat) (l : List UInt8) (w : World) (S : Nat → Prop) (hr : Rd w S 1 A n (l.map bv)) (hn : n ≤ 1099511627776) : Calls Tryz.prog 201 #[.slice A n c] w (RrNew w l) := by
  have hln : l.length = n := by simpa using hr.1
  have HL := Lib.hid hln
  have HC := Lib.hid (Clone_any A n c l w S hr hn)
  clear hln hr
  go_enter Tryz.func201, Tryz.ntmps201
  go_wp2_with fail
  refine HC.out.mono ?_
  rintro e w1 ⟨v1, rfl, hg1⟩
  obtain ⟨A1, n1, c1, rfl, H1, H1c⟩ := own_slice hg1.own
  have HG := Lib.hid hg1
  clear hg1
  go_wp2
  go_ret
  have hR := OwnB.rd HG.out.own H1.out
  refine ⟨w1.heap.size, Rows1 (.slice A1 n1 c1), rfl, ⟨⟨A1, n1, c1, Blk.new _ _ _, hR.fr0 ((Fr.refl _ _).alloc _), H1c.out⟩, fun h => ?_, ?_⟩, HG.out.fr0.alloc _, HG.out.fr.size, fun k hk => ⟨HG.out.new k hk, by have := (HG.out.own.lt _ hk).2; simp; omega⟩⟩
  · have := (HG.out.own.lt _ h).2; omega
  · have := HL.out; omega

set_option maxHeartbeats 1000000 in
theorem rClose_any (g : Nat) (S : Nat → Prop) (l : List UInt8) (p : Nat) (f : Int) (w : World) (h : Rr w g S l p f) :
    Calls Tryz.prog 205 #[.pointer (some ⟨g, 0, none⟩)] w fun e w' => e = .returned (.int .i64 (if f = 0 then (if 0 < l.length then 5 else 0) else f)) ∧ w = w' := by
  obtain ⟨⟨A, n, c, hb, hr, hnc⟩, hfar, hsm⟩ := h
  have hln : l.length = n := by simpa using hr.1
  have hc0 : w.cell? ⟨g, 0, none⟩ = some (.slice A n c) := hb.cell 0
  have hc2 : w.cell? ⟨g, 2, none⟩ = some (.int .i64 f) := hb.cell 2
  rw [hln]
  clear hb hr hln
  by_cases hf : f = 0
  · subst hf
    rw [if_pos rfl]
    by_cases hn : 0 < n
    · rw [if_pos hn]
      go_enter Tryz.func205, Tryz.ntmps205
      go_wp2
      go_ret
      exact ⟨rfl, rfl⟩
    · rw [if_neg hn]
      go_enter Tryz.func205, Tryz.ntmps205
      go_wp2
      go_ret
      exact ⟨rfl, rfl⟩
  · rw [if_neg hf]
    have hfb : (f != 0) = true := by rw [bne_iff_ne]; exact hf
    clear hf
    go_enter Tryz.func205, Tryz.ntmps205
    go_wp2
    go_ret
    exact ⟨rfl, rfl⟩
end Go.Proofs.YtmpokappjogehaaGreatDoor

namespace Go.Proofs.YtmpokappjogehaaGreatDoor
open Go.RowKit

abbrev Rst := List UInt8 × Nat × Int
def closeN (st : List UInt8 × Nat × Int) : Int := if st.2.2 = 0 then (if 0 < st.1.length then 5 else 0) else st.2.2

/-- A reader that was made in this call. -/
structure Ri (w0 W : World) (g : Nat) (S : Nat → Prop) (st : Rst) : Prop where
  fr : Fr Nothing w0 W
  rr : Rr W g S st.1 st.2.1 st.2.2
  new : w0.heap.size ≤ g
  sn : ∀ k, S k → w0.heap.size ≤ k ∧ k < W.heap.size
theorem Rr.blk {W : World} {g : Nat} {S : Nat → Prop} {l : List UInt8} {p : Nat} {f : Int} (h : Rr W g S l p f) : ∃ A n c, Blk W g 317 #[.slice A n c, .int .i64 p, .int .i64 f] := by
  obtain ⟨A, n, c, hb, _⟩ := h.ex
  exact ⟨A, n, c, hb⟩
theorem Ri.step {w0 W W' : World} {g : Nat} {S : Nat → Prop} {st st' : Rst} (h : Ri w0 W g S st) (k : RrStep W g S W' st'.1 st'.2.1 st'.2.2) : Ri w0 W' g S st' :=
  ⟨h.fr.then_ k.fr (fun i hi e => by have e' : i = g := e; have := h.new; omega), k.rr, h.new, fun i hi => ⟨(h.sn i hi).1, Nat.lt_of_lt_of_le (h.sn i hi).2 k.fr.size⟩⟩
theorem Ri.later {w0 W W' : World} {g : Nat} {S : Nat → Prop} {st : Rst} (h : Ri w0 W g S st) (f : Fr Nothing W W') : Ri w0 W' g S st :=
  ⟨h.fr.trans f, h.rr.keep0 f, h.new, fun i hi => ⟨(h.sn i hi).1, Nat.lt_of_lt_of_le (h.sn i hi).2 f.size⟩⟩
/-- A block of the running call is turned. -/
theorem Ri.mine {w0 W0 W W' : World} {g b : Nat} {S : Nat → Prop} {st0 st : Rst} (h0 : Ri w0 W0 g S st0) (h : Ri w0 W g S st) (f : Fr (fun k => k = b) W W') (hb : W0.heap.size ≤ b) : Ri w0 W' g S st := by
  have h1 := h0.rr.lt
  have h2 := h0.fr.size
  refine ⟨h.fr.then_ f (fun i hi e => by have e' : i = b := e; omega), h.rr.keep f (fun e => by have e' : g = b := e; omega) (fun k hk e => by
    have e' : k = b := e
    have := (h0.sn k hk).2
    omega), h.new, fun i hi => ⟨(h.sn i hi).1, Nat.lt_of_lt_of_le (h.sn i hi).2 f.size⟩⟩
/-- A call that reads v. -/
def Red (w0 W : World) (g : Nat) (S : Nat → Prop) (v : Value) (st : Rst) (e : Ending) (W' : World) : Prop := e = .returned v ∧ Ri w0 W' g S st ∧ Fr (Only g) W W'
theorem Ri.number {w0 W : World} {g : Nat} {S : Nat → Prop} {st : Rst} (h : Ri w0 W g S st) (most : Int) :
    Calls Tryz.prog 202 #[.pointer (some ⟨g, 0, none⟩), .int .i64 most] W (Red w0 W g S (.int .i64 (rStep 0 (pNumber most) st).1) (rStep 0 (pNumber most) st).2) := by
  obtain ⟨l, p, f⟩ := st
  refine (rdNumber_any g S l p f most W h.rr).mono ?_
  rintro e w' ⟨rfl, hs⟩
  exact ⟨rfl, h.step hs, hs.fr⟩
theorem Ri.text {w0 W : World} {g : Nat} {S : Nat → Prop} {st : Rst} (h : Ri w0 W g S st) (most : Int) :
    Calls Tryz.prog 203 #[.pointer (some ⟨g, 0, none⟩), .int .i64 most] W (Red w0 W g S (.string ⟨(rStep [] (pText most) st).1.toArray⟩) (rStep [] (pText most) st).2) := by
  obtain ⟨l, p, f⟩ := st
  refine (rText_any g S l p f most W h.rr).mono ?_
  rintro e w' ⟨rfl, hs⟩
  exact ⟨rfl, h.step hs, hs.fr⟩
theorem Ri.flag {w0 W : World} {g : Nat} {S : Nat → Prop} {st : Rst} (h : Ri w0 W g S st) :
    Calls Tryz.prog 204 #[.pointer (some ⟨g, 0, none⟩)] W (Red w0 W g S (.bool (rStep false pFlag st).1) (rStep false pFlag st).2) := by
  obtain ⟨l, p, f⟩ := st
  refine (rFlag_any g S l p f W h.rr).mono ?_
  rintro e w' ⟨rfl, hs⟩
  exact ⟨rfl, h.step hs, hs.fr⟩
theorem Ri.close {w0 W : World} {g : Nat} {S : Nat → Prop} {st : Rst} (h : Ri w0 W g S st) :
    Calls Tryz.prog 205 #[.pointer (some ⟨g, 0, none⟩)] W (SameW W (.int .i64 (closeN st))) := by
  obtain ⟨l, p, f⟩ := st
  exact rClose_any g S l p f W h.rr
end Go.Proofs.YtmpokappjogehaaGreatDoor

namespace Go.Proofs.YtmpokappjogehaaGreatDoor
open Go.RowKit

/-- What is written is a text. -/
theorem bytes_text {w W : World} {gw : Nat} {l : List UInt8} (h : Wi w W gw l) (hl : l.length ≤ 1099511627776) :
    Calls Tryz.prog 185 #[.pointer (some ⟨gw, 0, none⟩)] W (fun e W' => ∃ A n c, e = .returned (.tuple #[.slice A n c, .int .i64 0]) ∧ Fr Nothing w W' ∧ (convert 22 9 (.slice A n c)).run Tryz.prog W' = .ok (.string ⟨l.toArray⟩) W') := by
  obtain ⟨v, h1, h2⟩ := h.wr
  refine (wBytes_any gw v l 0 W h1 hl).mono ?_
  rintro e w1 ⟨_, hx⟩
  obtain ⟨v8, rfl, hg8⟩ := hx rfl
  obtain ⟨A8, n8, c8, rfl, H8, _⟩ := own_slice hg8.own
  exact ⟨A8, n8, c8, rfl, h.fr.trans hg8.fr0, run_strT w1 _ A8 n8 c8 _ (OwnB.rd hg8.own H8.out)⟩
end Go.Proofs.YtmpokappjogehaaGreatDoor

namespace Go.Proofs.YtmpokappjogehaaGreatDoor
open Go.RowKit

theorem rStep_ofN {α : Type} (zero : α) (parse : List UInt8 → α × Nat × Int) (l : List UInt8) (p : Nat) (x : α) (k : Nat) (h : parse l = (x, k, 0)) : rStep zero parse (l, p, 0) = (x, (l.drop k, p + k, 0)) := by
  unfold rStep
  simp [h]
theorem rNum_enc (u : Nat) (most : Int) (hu : u < 9223372036854775808) (hm : (u : Int) ≤ most) (r : List UInt8) (p : Nat) : rStep 0 (pNumber most) (enc u ++ r, p, 0) = ((u : Int), (r, p + (enc u).length, 0)) := by
  have h : pNumber most (enc u ++ r) = ((u : Int), (enc u).length, 0) := by
    unfold pNumber
    rw [pn_enc9 u r hu]
    simp only [true_and]
    rw [if_neg (by omega)]
    rfl
  rw [rStep_ofN 0 (pNumber most) _ p _ _ h, List.drop_left]
theorem rText_enc (s : List UInt8) (most : Int) (h1 : (s.length : Int) ≤ most) (h2 : s.length ≤ 16777216) (r : List UInt8) (p : Nat) : rStep [] (pText most) (textB s ++ r, p, 0) = (s, (r, p + (textB s).length, 0)) := by
  have h : pText most (textB s ++ r) = (s, (textB s).length, 0) := by
    unfold pText textB
    rw [List.append_assoc, pn_enc9 s.length (s ++ r) (by omega)]
    simp only [ne_eq, not_true_eq_false, if_false]
    rw [if_neg (by omega), if_neg (by simp only [List.length_append]; omega), List.drop_left, List.take_left, List.length_append]
  rw [rStep_ofN [] (pText most) _ p _ _ h, List.drop_left]
theorem rFlag_enc (b : Bool) (r : List UInt8) (p : Nat) : rStep false pFlag (flagB b ++ r, p, 0) = (b, (r, p + 1, 0)) := by
  have h : pFlag (flagB b ++ r) = (b, 1, 0) := by cases b <;> simp [pFlag, flagB]
  rw [rStep_ofN false pFlag _ p _ _ h]
  cases b <;> rfl
end Go.Proofs.YtmpokappjogehaaGreatDoor

namespace Go.Proofs.YtmpokappjogehaaGreatDoor
open Go.RowKit

theorem conv_bytes (w : World) (s : ByteArray) : ∃ c w1, (convert 9 22 (.string s)).run Tryz.prog w = .ok (.slice (some ⟨w.heap.size, 0, none⟩) s.size c) w1 ∧ Fr Nothing w w1 ∧ Rd w1 (fun k => k = w.heap.size) 1 (some ⟨w.heap.size, 0, none⟩) s.size ((strL s).map bv) := by
  refine ⟨_, _, Lib.run_convert_string_bytes w 9 22 5 s Tryz.underlying9 Tryz.underlying22 Tryz.underlying5, ⟨rfl, rfl, rfl, ?_, fun k hk _ => Lib.bytesWorld_at_old w _ s k hk⟩, ?_, fun _ => ⟨_, rfl, rfl, fun j u hu => ?_⟩⟩
  · rw [Lib.bytesWorld_size]; omega
  · rw [List.length_map, strL_length, Nat.mul_one]
  · rw [List.getElem?_map] at hu
    cases hj : (strL s)[j]? with
    | none => rw [hj] at hu; cases hu
    | some x =>
      rw [hj] at hu
      simp only [Option.map_some, Option.some.injEq] at hu
      have hjl : j < s.size := by rw [← strL_length]; exact (List.getElem?_eq_some_iff.1 hj).1
      rw [show (⟨w.heap.size, 0, none⟩ : Addr).add j = ⟨w.heap.size, j, none⟩ by unfold Addr.add; split <;> simp_all, Lib.bytesWorld_cell w _ s j hjl]
      unfold strL at hj
      rw [List.getD_eq_getElem?_getD, hj, ← hu]
      rfl
theorem results_cell_slotN {P : Program} {fn : Func} {p q : Tmp} {ty : TypeId} (h : fn.results = #[.cell p ty, .tmp q]) (tmps : Array Value) (w : World) (g : Nat) (t : TypeId) (cs : Array Value) (fr : Nat × Nat) (d : TypeDesc)
    (hp : tmps.getD p undef = .pointer (some ⟨g, 0, none⟩)) (hg : w.heap[g]? = some (.cells cs t fr))
    (hu : P.underlying ty = some d) (hd : (match d with | .struct _ | .array _ _ => true | _ => false) = true) (hi : (P.info? ty).map (·.size) = some cs.size) (v : Value) (hv : tmps.getD q undef = v) :
    (results fn tmps).run P w = .ok (.tuple #[.agg cs, v]) w := by
  have hp' : tmps[p]?.getD undef = .pointer (some ⟨g, 0, none⟩) := by simpa using hp
  have hv' : tmps[q]?.getD undef = v := by simpa using hv
  simp [results, h, hp', hv', asAddr, run_loadVar_row w g t ty cs fr d hg hu hd hi]
end Go.Proofs.YtmpokappjogehaaGreatDoor
