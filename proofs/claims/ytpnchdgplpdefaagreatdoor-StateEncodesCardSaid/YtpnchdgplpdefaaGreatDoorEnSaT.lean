/- State: Parse, Valid, Ordinals (written by genSaT.py). -/
import Derived.Test.YtpnchdgplpdefaaGreatDoorEnSaR
namespace Go.Proofs.YtpnchdgplpdefaaGreatDoor
open Go.RowKit Go.Shelf
attribute [local go_sem] Oper.semAt_some
theorem parts_any (s : ByteArray) (w : World) : Calls Tryz.prog 99 #[.string s] w fun r w' => r = .returned (.func (.func 104) #[] #[.pointer (some ⟨w.heap.size, 0, none⟩)]) ∧ Fr Nothing w w' ∧ Blk w' w.heap.size 9 #[.string s] := by
 go_enter Tryz.func99, Tryz.ntmps99
 go_wp2_with (refine wpList_boxBlk rfl 9 (.tmp 0) rfl #[.string s] rfl ?_)
 intro w1 n1
 have N1 := Lib.hid n1
 clear n1
 go_wp2
 go_ret
 exact ⟨rfl, N1.out.fr, N1.out.blk⟩
theorem stage_same {ws : List (Nat × (World → Prop))} {M : World → Prop} (h : ∀ x ∈ ws, x.2 = M) {d : Nat → Bool} {w : World} (hs : stage ws M d w) : M w := by
 induction ws with
 | nil => exact hs
 | cons x r ih =>
  obtain ⟨p, M'⟩ := x
  have e : M' = M := h _ List.mem_cons_self
  subst e
  unfold stage at hs
  split at hs
  ·exact ih (fun y hy => h y (List.mem_cons_of_mem _ hy)) hs
  ·exact hs
theorem partsR_le : ∀ (n at_ : Nat) (l : List UInt8), (partsR n at_ l).length ≤ n + 1
 | 0, _, _ => by simp [partsR]
 | n + 1, at_, l => by
  rw [partsR]
  simp only
  split
  ·simp
  ·split
   ·simp
   ·split
    ·simp
    ·have := partsR_le n (at_ + (runD 7 l).length + 1) (l.drop ((runD 7 l).length + 1))
     simp only [List.length_cons]
     omega
theorem partsL_le (s : ByteArray) : (partsL s).length ≤ 9 := by
 unfold partsL
 split
 ·simp
 ·exact partsR_le 8 0 _
theorem KP.put (W : World) (l : Nat) (o o' : Obj) (h : W.heap[l]? = some o) (hc : o.isCells = false) : KP W (W.putObj l o') :=
 KP.fr (Fr.grown (grownBy_putObj' W l o')) (fun g t cs _ hb e => by
  have e' : g = l := by simpa using e
  subst e'
  unfold Blk at hb
  rw [hb] at h
  cases h
  simp [Obj.isCells] at hc)
structure InR (w0 w3 W : World) : Prop where
 fr : Fr Nothing w0 W
 kp : KP w3 W
theorem grown_hf {A B : World} {row : Option Nat} {N : Nat} (hg : A.grownBy B row) (hr : ∀ r, row = some r → N ≤ r ∧ ∃ o : Obj, A.heap[r]? = some o ∧ o.isCells = false) :
  Fr (fun k => some k = row) A B ∧ KP A B ∧ (∀ g t cs, Blk A g t cs → Blk B g t cs) := by
 have hf : Fr (fun k => some k = row) A B := Fr.grown hg
 have hb : ∀ g t cs, Blk A g t cs → Blk B g t cs := fun g t cs hb => hb.fr hf (fun e => by
  obtain ⟨_, o, ho, hc⟩ := hr g e.symm
  unfold Blk at hb
  rw [hb] at ho
  cases ho
  simp [Obj.isCells] at hc)
 exact ⟨hf, fun g t cs _ h => hb g t cs h, hb⟩
def opAlloc : Op → Bool
 | .alloc _ => true
 | _ => false
theorem zvStrN (w : World) : (zeroValue 42).run Tryz.prog w = .ok (.string ByteArray.empty) w := by kernel_rfl
theorem zvIntN (w : World) : (zeroValue 3).run Tryz.prog w = .ok (.int .i64 0) w := by kernel_rfl
theorem zvErrN (w : World) : (zeroValue 30).run Tryz.prog w = .ok (.int .i64 0) w := by kernel_rfl
theorem infoLN : (Tryz.prog.info? 42).map (·.size) = some 1 := by kernel_rfl
theorem infoI1 : (Tryz.prog.info? 3).map (·.size) = some 1 := by kernel_rfl
theorem infoE1 : (Tryz.prog.info? 30).map (·.size) = some 1 := by kernel_rfl
structure Res3 (w0 w3 : World) (g2 g3 g4 : Nat) (W : World) : Prop where
 fr : Fr Nothing w0 W
 kp : KP w3 W
 b2 : ∃ n, Blk W g2 42 #[.string n]
 b3 : ∃ a, Blk W g3 3 #[.int .i64 a]
 b4 : ∃ k, Blk W g4 30 #[.int .i64 k]
theorem Res3.later {w0 w3 A B : World} {g2 g3 g4 : Nat} (h : Res3 w0 w3 g2 g3 g4 A) (f : Fr Nothing A B) : Res3 w0 w3 g2 g3 g4 B :=
 ⟨h.fr.trans f, h.kp.trans (KP.fr f (fun _ _ _ _ _ x => x)), by obtain ⟨n, hn⟩ := h.b2; exact ⟨n, hn.fr f (fun x => x)⟩, by obtain ⟨n, hn⟩ := h.b3; exact ⟨n, hn.fr f (fun x => x)⟩, by obtain ⟨n, hn⟩ := h.b4; exact ⟨n, hn.fr f (fun x => x)⟩⟩
theorem Res3.grown {w0 w3 A B : World} {g2 g3 g4 : Nat} {row : Option Nat} {N : Nat} (h : Res3 w0 w3 g2 g3 g4 A) (hg : A.grownBy B row) (hr : ∀ r, row = some r → N ≤ r ∧ ∃ o : Obj, A.heap[r]? = some o ∧ o.isCells = false) (hN : w0.heap.size ≤ N) : Res3 w0 w3 g2 g3 g4 B := by
 obtain ⟨hf, hk, hb⟩ := grown_hf hg hr
 exact ⟨h.fr.then_ hf (fun i hi e => by have := (hr i e.symm).1; omega), h.kp.trans hk, by obtain ⟨n, hn⟩ := h.b2; exact ⟨n, hb _ _ _ hn⟩, by obtain ⟨n, hn⟩ := h.b3; exact ⟨n, hb _ _ _ hn⟩, by obtain ⟨n, hn⟩ := h.b4; exact ⟨n, hb _ _ _ hn⟩⟩
theorem run_loadVar_one {P : Program} (w : World) (g : Nat) (t ty : TypeId) (v : Value) (hg : Blk w g t #[v]) (_hi : (P.info? ty).map (·.size) = some 1) (ha : (isAgg ty).run P w = .ok false w) :
  (loadVar ty ⟨g, 0, none⟩).run P w = .ok v w := by
 have hc : w.cell? ⟨g, 0, none⟩ = some v := hg.cell 0
 simp [loadVar, ha, go_sem, hc]
theorem results_parse (tmps : Array Value) (w : World) (g2 g3 g4 : Nat) (n : ByteArray) (a k : Int)
  (h2 : tmps.getD 2 undef = .pointer (some ⟨g2, 0, none⟩)) (h3 : tmps.getD 3 undef = .pointer (some ⟨g3, 0, none⟩)) (h4 : tmps.getD 4 undef = .pointer (some ⟨g4, 0, none⟩))
  (b2 : Blk w g2 42 #[.string n]) (b3 : Blk w g3 3 #[.int .i64 a]) (b4 : Blk w g4 30 #[.int .i64 k]) :
  (results Tryz.f96 tmps).run Tryz.prog w = .ok (.tuple #[.string n, .int .i64 a, .int .i64 k]) w := by
 have h2' : tmps[2]?.getD undef = .pointer (some ⟨g2, 0, none⟩) := by simpa using h2
 have h3' : tmps[3]?.getD undef = .pointer (some ⟨g3, 0, none⟩) := by simpa using h3
 have h4' : tmps[4]?.getD undef = .pointer (some ⟨g4, 0, none⟩) := by simpa using h4
 simp [results, Tryz.results96, h2', h3', h4', asAddr, run_loadVar_one w g2 _ _ _ b2 infoLN (Tryz.isAgg42 w), run_loadVar_one w g3 _ _ _ b3 infoI1 (Tryz.isAgg3 w), run_loadVar_one w g4 _ _ _ b4 infoE1 (Tryz.isAgg30 w)]
def Parsed (w : World) (s : ByteArray) (r : Ending) (w' : World) : Prop := ∃ n a k, r = .returned (.tuple #[.string n, .int .i64 a, .int .i64 k]) ∧ (k == 0) = validO s ∧ Fr Nothing w w'
set_option maxRecDepth 100000 in
set_option maxHeartbeats 4000000 in
theorem Parse_any (s : ByteArray) (w : World) (hs : s.size ≤ 1099511627776) : Calls Tryz.prog 96 #[.string s] w (Parsed w s) := by
 have HS := Lib.hid hs
 clear hs
 refine (callsIn_wide (n := 6)).1 (callsIn_of_wp_marks Tryz.func96 rfl trivial (wpIn_wide.2 ?_) rfl)
 simp only [Tryz.ntmps96, List.size_toArray, List.length_cons, List.length_nil, Nat.reduceAdd, Nat.reduceSub, Array.replicate_succ, Array.replicate_zero, List.push_toArray, List.append_toArray, List.nil_append, List.cons_append]
 go_wp2_with (refine wpList_allocBlk rfl 42 rfl (.string ByteArray.empty) zvStrN #[.string ByteArray.empty] rfl ?_)
 intro wa na
 have FA := Lib.hid na.fr
 have B2 := Lib.hid na.blk
 have Z2 : Sz w w.heap.size := Nat.le_refl _
 clear na
 generalize w.heap.size = g2 at *
 go_wp2_with (refine wpList_allocBlk rfl 3 rfl (.int .i64 0) zvIntN #[.int .i64 0] rfl ?_)
 intro wb nb
 have FB := Lib.hid (FA.out.trans nb.fr)
 have B2b := Lib.hid (B2.out.fr nb.fr (fun x => x))
 have B3 := Lib.hid nb.blk
 have Z3 : Sz w wa.heap.size := FA.out.size
 clear nb B2 FA
 generalize wa.heap.size = g3 at *
 go_wp2_with (refine wpList_allocBlk rfl 30 rfl (.int .i64 0) zvErrN #[.int .i64 0] rfl ?_)
 intro w2 nc
 have FC := Lib.hid (FB.out.trans nc.fr)
 have B2c := Lib.hid (B2b.out.fr nc.fr (fun x => x))
 have B3c := Lib.hid (B3.out.fr nc.fr (fun x => x))
 have B4c := Lib.hid nc.blk
 have Z4 : Sz w wb.heap.size := FB.out.size
 clear nc B2b B3 FB
 generalize wb.heap.size = g4 at *
 have E2 : Hid (Res3 w w2 g2 g3 g4 w2) := ⟨FC.out, KP.refl _, ⟨_, B2c.out⟩, ⟨_, B3c.out⟩, ⟨_, B4c.out⟩⟩
 have NE : Hid (g2 ≠ g3 ∧ g2 ≠ g4 ∧ g3 ≠ g4) := by
  refine ⟨?_, ?_, ?_⟩ <;> (rintro rfl)
  ·have h1 := B2c.out
   have h2 := B3c.out
   unfold Blk at h1 h2
   rw [h1] at h2
   cases h2
  ·have h1 := B2c.out
   have h2 := B4c.out
   unfold Blk at h1 h2
   rw [h1] at h2
   cases h2
  ·have h1 := B3c.out
   have h2 := B4c.out
   unfold Blk at h1 h2
   rw [h1] at h2
   cases h2
 clear B2c B3c B4c FC
 go_wp2_with fail
 refine (parts_any s _).mono ?_
 rintro r w3 ⟨rfl, f3, b3⟩
 have E3 := Lib.hid (E2.out.later f3)
 have G3 := Lib.hid b3
 clear f3 b3 E2
 generalize w2.heap.size = gs at *
 go_wp2_with fail
 refine (wpIn_wide (n := 6)).1 ?_
 refine wpIn_rangeFunc_ownH rfl (by omega) (gf := 104) (lb := #[.pointer (some ⟨gs, 0, none⟩)]) rfl trivial (enters_of Tryz.func104 (by kernel_rfl) rfl)
  (parts_stops 5 gs s w3 HS.out G3.out) (fun h k => h.trans k) (fun W l o o' _ ho hc _ => KP.put W l o o' ho hc) (Below.refl _ _) (fun _ => rfl)
  (fun pre W => Res3 w w2 g2 g3 g4 W ∧ ∀ y ∈ pre, y.e = 0) (fun cd pre W => Res3 w w2 g2 g3 g4 W ∧ ∃ x ∈ pre, x.e ≠ 0 ∧ Blk W g4 30 #[.int .i64 x.e] ∧ cd = .ret) (fun pre A B row h hg hr => ⟨h.1.grown hg hr E3.out.fr.size, h.2⟩) (fun cd pre A B row h hg hr => by obtain ⟨h1, x, hx, hz, hb, hc⟩ := h; exact ⟨h1.grown hg hr E3.out.fr.size, x, hx, hz, (grown_hf hg hr).2.2 _ _ _ hb, hc⟩) ⟨E3.out, by simp⟩
  (fun x a' W => ∃ g, a' = ({ tmps := #[.string s, undef, .pointer (some ⟨g2, 0, none⟩), .pointer (some ⟨g3, 0, none⟩), .pointer (some ⟨g4, 0, none⟩), .pointer (some ⟨g, 0, none⟩), .string s, .func (.func 104) #[] #[.pointer (some ⟨gs, 0, none⟩)], .agg #[.int .i64 x.ord, .int .i64 x.at_, .int .i64 x.e], undef, undef, undef, undef, undef, undef, undef, undef], defers := [] } : Act) ∧ Blk W g 166 (partC x))
  (fun x a' _ A B row h hg hr => by
   obtain ⟨g, e, hb⟩ := h
   exact ⟨g, e, (grown_hf hg hr).2.2 _ _ _ hb⟩)
  ?assign ?body ?done ?stop
 case assign =>
  intro l pre x W K hI hK
  have HK := Lib.hid hK
  have HI := Lib.hid hI
  clear hK hI
  gi_wp2_with (refine wpListIn_round1 opAlloc rfl (by kernel_rfl) ?_)
  go_wp2_with (refine wpList_allocBlk rfl 166 rfl (.agg partZ) zvPart partZ rfl ?_)
  intro wa na
  have FA := Lib.hid na.fr
  have BA := Lib.hid na.blk
  have Z1 : Sz W W.heap.size := Nat.le_refl _
  clear na
  generalize W.heap.size = g at *
  go_wp2_with (refine wpList_storeBlk rfl 166 (.tmp 5) _ rfl g (partC x) rfl rfl _ _ BA.out infoPart rfl (part_one x) ?_)
  intro wb bb fb
  have FB : Fr Nothing W wb := FA.out.then_ fb (fun i hi e => by have e' : i = g := e; have := Z1; unfold Sz at this; omega)
  refine ⟨?_, rfl⟩
  refine HK.out _ _ ⟨FB.size, fun k o _ ho _ => (FB.block k (Array.getElem?_eq_some_iff.1 ho).1 (fun x => x)).trans ho⟩ (KP.fr FB (fun _ _ _ _ _ x => x)) (⟨HI.out.1.later FB, HI.out.2⟩) ⟨g, rfl, bb⟩
 case body =>
  rintro l' pre x a' W hl hlr hI ⟨g, rfl, hbx⟩ hlt
  have HI := Lib.hid hI
  have E4 := Lib.hid hI.1
  have BX := Lib.hid hbx
  have q2 : W.cell? ⟨g, 2, none⟩ = some (.int .i64 x.e) := hbx.cell 2
  have NX : Hid (¬ (g = g2 ∨ g = g3)) := by
   rintro (rfl | rfl)
   ·obtain ⟨n, hn⟩ := hI.1.b2
    unfold Blk at hbx hn
    rw [hbx] at hn
    cases hn
   ·obtain ⟨n, hn⟩ := hI.1.b3
    unfold Blk at hbx hn
    rw [hbx] at hn
    cases hn
  clear hI hbx hlt hl hlr
  by_cases hz : x.e = 0
  ·have hz2 : ((x.e : Int) == 0) = true := by rw [beq_iff_eq]; omega
   gi_wp2
   refine ⟨KeepsFrom.refl _ _, KP.refl _, HI.out.1, ?_⟩
   intro y hy
   rcases List.mem_append.1 hy with h | h
   ·exact HI.out.2 y h
   ·rw [List.mem_singleton.1 h]; exact hz
  ·have hz2 : ((x.e : Int) == 0) = false := by rw [beq_eq_false_iff_ne]; omega
   have HZ := Lib.hid hz
   gi_wp2
   refine wpIn_round_st 6 (fun k => k = g2 ∨ k = g3) [Is (.pointer (some ⟨g, 1, none⟩)), Is (.int .i64 x.at_), Is (.pointer (some ⟨g, 2, none⟩)), Is (.int .i64 x.e), (fun _ _ => True), (fun _ _ => True)] [(4, (fun W' => (∃ n, Blk W' g2 42 #[.string n]) ∧ (∃ a, Blk W' g3 3 #[.int .i64 a]) ∧ ∃ k, Blk W' g4 30 #[.int .i64 k])), (5, (fun W' => (∃ n, Blk W' g2 42 #[.string n]) ∧ (∃ a, Blk W' g3 3 #[.int .i64 a]) ∧ ∃ k, Blk W' g4 30 #[.int .i64 k]))] (fun W' => (∃ n, Blk W' g2 42 #[.string n]) ∧ (∃ a, Blk W' g3 3 #[.int .i64 a]) ∧ ∃ k, Blk W' g4 30 #[.int .i64 k]) (fun i j => i == 4 && j == 5) (by kernel_rfl) (by kernel_rfl) (by kernel_rfl) (by kernel_rfl) (by kernel_rfl) ⟨Is.stable _, Is.stable _, Is.stable _, Is.stable _, fun _ _ _ _ _ h => h, fun _ _ _ _ _ h => h, trivial⟩ ⟨(fun _ _ _ hf h => ⟨(by obtain ⟨a, ha⟩ := h.1; exact ⟨a, ha.fr hf (fun x => x)⟩), (by obtain ⟨a, ha⟩ := h.2.1; exact ⟨a, ha.fr hf (fun x => x)⟩), (by obtain ⟨a, ha⟩ := h.2.2; exact ⟨a, ha.fr hf (fun x => x)⟩)⟩), (fun _ _ _ hf h => ⟨(by obtain ⟨a, ha⟩ := h.1; exact ⟨a, ha.fr hf (fun x => x)⟩), (by obtain ⟨a, ha⟩ := h.2.1; exact ⟨a, ha.fr hf (fun x => x)⟩), (by obtain ⟨a, ha⟩ := h.2.2; exact ⟨a, ha.fr hf (fun x => x)⟩)⟩), trivial⟩ (fun _ _ _ hf h => ⟨(by obtain ⟨a, ha⟩ := h.1; exact ⟨a, ha.fr hf (fun x => x)⟩), (by obtain ⟨a, ha⟩ := h.2.1; exact ⟨a, ha.fr hf (fun x => x)⟩), (by obtain ⟨a, ha⟩ := h.2.2; exact ⟨a, ha.fr hf (fun x => x)⟩)⟩) ⟨E4.out.b2, E4.out.b3, E4.out.b4⟩ ?_ ?_
   ·refine ⟨fun u w' d hf hR k1 k0 kM => ?_, fun u w' d hf hR k1 k0 kM => ?_, fun u w' d hf hR k1 k0 kM => ?_, fun u w' d hf hR k1 k0 kM => ?_, fun u w' d hf hR k1 k0 kM => ?_, fun u w' d hf hR k1 k0 kM => ?_, trivial⟩
    all_goals simp only [List.take_succ_cons, List.take_zero, List.map_cons, List.map_nil, puts, Act.put, List.setIfInBounds_toArray, List.set_cons_zero, List.set_cons_succ, Nat.reduceAdd, Nat.zero_add]
    ·clear hR k1 k0 kM
     refine .inl ⟨by kernel_rfl, ?_⟩
     go_simp
     exact ⟨_, rfl, Fr.refl _ _, rfl, trivial⟩
    ·have h0 : u 0 = _ := hR 0 (by kernel_rfl)
     clear hR k1 k0 kM
     simp only [h0]
     refine .inl ⟨by kernel_rfl, ?_⟩
     have q : w'.cell? ⟨g, 1, none⟩ = some _ := (BX.out.fr hf NX.out).cell 1
     go_simp
     exact ⟨_, rfl, Fr.refl _ _, rfl, trivial⟩
    ·clear hR k1 k0 kM
     refine .inl ⟨by kernel_rfl, ?_⟩
     go_simp
     exact ⟨_, rfl, Fr.refl _ _, rfl, trivial⟩
    ·have h2 : u 2 = _ := hR 2 (by kernel_rfl)
     clear hR k1 k0 kM
     simp only [h2]
     refine .inl ⟨by kernel_rfl, ?_⟩
     have q : w'.cell? ⟨g, 2, none⟩ = some _ := (BX.out.fr hf NX.out).cell 2
     go_simp
     exact ⟨_, rfl, Fr.refl _ _, rfl, trivial⟩
    ·clear hR k1 k0
     refine .inl ⟨by kernel_rfl, ?_⟩
     obtain ⟨⟨n, h2⟩, h3, h4⟩ := stage_same (by simp) kM
     refine wp_storeOne 42 (.tmp 2) _ rfl g2 0 (.string ByteArray.empty) rfl rfl rfl infoLN _ _ #[.string ByteArray.empty] h2 (by simp) rfl ?_
     intro wq bq fq
     refine ⟨_, rfl, fq.mono (fun i _ h => .inl h), trivial, ⟨_, bq⟩, ?_, ?_⟩
     ·obtain ⟨a, ha⟩ := h3; exact ⟨a, ha.fr fq (fun e => NE.out.1 e.symm)⟩
     ·obtain ⟨a, ha⟩ := h4; exact ⟨a, ha.fr fq (fun e => NE.out.2.1 e.symm)⟩
    ·have h1 : u 1 = _ := hR 1 (by kernel_rfl)
     clear hR k1 k0
     simp only [h1]
     refine .inl ⟨by kernel_rfl, ?_⟩
     obtain ⟨h2, ⟨n, h3⟩, h4⟩ := stage_same (by simp) kM
     refine wp_storeOne 3 (.tmp 3) _ rfl g3 0 (.int .i64 x.at_) rfl rfl rfl infoI1 _ _ #[.int .i64 x.at_] h3 (by simp) rfl ?_
     intro wq bq fq
     refine ⟨_, rfl, fq.mono (fun i _ h => .inr h), trivial, ?_, ⟨_, bq⟩, ?_⟩
     ·obtain ⟨a, ha⟩ := h2; exact ⟨a, ha.fr fq (fun e => NE.out.1 e)⟩
     ·obtain ⟨a, ha⟩ := h4; exact ⟨a, ha.fr fq (fun e => NE.out.2.2 e.symm)⟩
   ·intro u w' hf hR kM
    have k3 : u 3 = _ := hR 3 (by omega)
    obtain ⟨h2, h3, k, h4⟩ := kM
    have KB2 := Lib.hid h2
    have KB3 := Lib.hid h3
    have KB4 := Lib.hid h4
    have KF := Lib.hid hf
    clear hR h2 h3 h4 hf
    simp only [List.take_succ_cons, List.take_zero, List.map_cons, List.map_nil, puts, Act.put, List.setIfInBounds_toArray, List.set_cons_zero, List.set_cons_succ, List.drop_succ_cons, List.drop_zero, Nat.reduceAdd, Nat.zero_add, k3]
    clear k3
    go_wp2_with (refine wpList_storeOne rfl 30 (.tmp 4) _ rfl g4 0 (.int .i64 x.e) rfl rfl rfl infoE1 _ _ #[.int .i64 x.e] KB4.out (by simp) rfl ?_)
    intro wq bq fq
    have FF : Fr (fun k => k = g2 ∨ k = g3 ∨ k = g4) W wq := (KF.out.mono (fun i _ h => h.elim .inl (fun h => .inr (.inl h)))).trans (fq.mono (fun i _ h => .inr (.inr h)))
    have CE : ∀ k, k = g2 ∨ k = g3 ∨ k = g4 → ∃ t cs, Blk W k t cs ∧ t ≠ 9 ∧ t ≠ 166 := by
     rintro k (rfl | rfl | rfl)
     ·obtain ⟨n, hn⟩ := E4.out.b2; exact ⟨_, _, hn, by decide, by decide⟩
     ·obtain ⟨n, hn⟩ := E4.out.b3; exact ⟨_, _, hn, by decide, by decide⟩
     ·obtain ⟨n, hn⟩ := E4.out.b4; exact ⟨_, _, hn, by decide, by decide⟩
    have KK : KP W wq := KP.fr FF (fun q t cs ht hb hq => by
     obtain ⟨t', cs', hb', h1, h2⟩ := CE q hq
     unfold Blk at hb hb'
     rw [hb] at hb'
     cases hb'
     rcases ht with rfl | rfl
     ·exact h1 rfl
     ·exact h2 rfl)
    refine ⟨?_, rfl⟩
    gi_wp2
    refine ⟨⟨FF.size, fun q o hB ho hc => (FF.block q (Array.getElem?_eq_some_iff.1 ho).1 (fun hq => ?_)).trans ho⟩, ⟨⟨?_, E4.out.kp.trans KK, ?_, ?_, ⟨_, bq⟩⟩, x, by simp, HZ.out, bq, rfl⟩⟩
    ·obtain ⟨t', cs', hb', _, _⟩ := CE q hq
     unfold Blk at hb'
     rw [ho] at hb'
     cases hb'
     simp [Obj.isCells] at hc
    ·exact E4.out.fr.then_ FF (fun i hi e => by
      have h2 := Z2; have h3 := Z3; have h4 := Z4
      unfold Sz at h2 h3 h4
      omega)
    ·obtain ⟨n, hn⟩ := KB2.out
     exact ⟨n, hn.fr fq (fun e => NE.out.2.1 e)⟩
    ·obtain ⟨n, hn⟩ := KB3.out
     exact ⟨n, hn.fr fq (fun e => NE.out.2.2 e)⟩
 case done =>
  rintro D xs W hD rfl hI hK
  obtain ⟨hE, hall⟩ := hI
  have PF : Fr (fun k => some k = some D) W (W.putObj D (.deferred none)) := Fr.grown (grownBy_putObj' W D _)
  have KD := Lib.hid hK
  have hV : Hid (validO s = true) := by
   simp only [Hid, validO, List.all_eq_true, beq_iff_eq]
   exact hall
  obtain ⟨n, b2⟩ := hE.b2
  obtain ⟨a, b3⟩ := hE.b3
  obtain ⟨k, b4⟩ := hE.b4
  have B2 := Lib.hid b2
  have B3 := Lib.hid b3
  have B4 := Lib.hid b4
  have HE := Lib.hid hE
  have HD := Lib.hid hD
  clear PF hE b2 b3 b4 hD hK hall
  go_wp2_with (refine wpList_storeOne rfl 42 (.tmp 2) _ rfl g2 0 (.string s) rfl rfl rfl infoLN _ _ #[.string s] B2.out (by simp) rfl ?_)
  intro wx bx fx
  have X3 := Lib.hid (B3.out.fr fx (fun e => NE.out.1 e.symm))
  have X4 := Lib.hid (B4.out.fr fx (fun e => NE.out.2.1 e.symm))
  have X2 := Lib.hid bx
  have FX := Lib.hid fx
  clear bx fx B2 B3 B4
  go_wp2_with (refine wpList_storeOne rfl 3 (.tmp 3) _ rfl g3 0 (.int .i64 0) rfl rfl rfl infoI1 _ _ #[.int .i64 0] X3.out (by simp) rfl ?_)
  intro wy by_ fy
  have Y2 := Lib.hid (X2.out.fr fy (fun e => NE.out.1 e))
  have Y4 := Lib.hid (X4.out.fr fy (fun e => NE.out.2.2 e.symm))
  have Y3 := Lib.hid by_
  have FY := Lib.hid fy
  clear by_ fy X2 X3 X4
  go_wp2_with (refine wpList_storeOne rfl 30 (.tmp 4) _ rfl g4 0 (.int .i64 0) rfl rfl rfl infoE1 _ _ #[.int .i64 0] Y4.out (by simp) rfl ?_)
  intro wz bz fz
  have V2 := Lib.hid (Y2.out.fr fz (fun e => NE.out.2.1 e))
  have V3 := Lib.hid (Y3.out.fr fz (fun e => NE.out.2.2 e))
  have V4 := Lib.hid bz
  have FF : Hid (Fr (fun k => k = g2 ∨ k = g3 ∨ k = g4) W wz) := ((FX.out.mono (fun i _ h => .inl h)).trans (FY.out.mono (fun i _ h => .inr (.inl h)))).trans (fz.mono (fun i _ h => .inr (.inr h)))
  have KD2 : Hid (wz.heap[D]? = some (.deferred (some []))) := by
   refine (FF.out.block D (Array.getElem?_eq_some_iff.1 KD.out).1 (fun hq => ?_)).trans KD.out
   have hd := KD.out
   rcases hq with rfl | rfl | rfl
   ·obtain ⟨n, hn⟩ := HE.out.b2; unfold Blk at hn; rw [hd] at hn; cases hn
   ·obtain ⟨n, hn⟩ := HE.out.b3; unfold Blk at hn; rw [hd] at hn; cases hn
   ·obtain ⟨n, hn⟩ := HE.out.b4; unfold Blk at hn; rw [hd] at hn; cases hn
  clear bz fz FX FY KD Y2 Y3 Y4
  go_wp2
  refine ⟨by simp, .inl ⟨_, _, rfl, run_takeDeferred KD2.out, ?_⟩⟩
  have PF : Fr (fun k => some k = some D) wz (wz.putObj D (.deferred none)) := Fr.grown (grownBy_putObj' wz D _)
  have nD : ∀ g t cs, Blk wz g t cs → ¬ (some g = some D) := fun g t cs hb e => by
   have e' : g = D := by simpa using e
   subst e'
   unfold Blk at hb
   rw [KD2.out] at hb
   cases hb
  refine ⟨_, results_parse _ _ g2 g3 g4 s 0 0 rfl rfl rfl (V2.out.fr PF (nD _ _ _ V2.out)) (V3.out.fr PF (nD _ _ _ V3.out)) (V4.out.fr PF (nD _ _ _ V4.out)), ⟨_, _, _, rfl, ?_, ?_⟩⟩
  ·rw [hV.out]; rfl
  ·refine (HE.out.fr.then_ FF.out (fun i hi e => ?_)).then_ PF (fun i hi e => ?_)
   ·have h2 := Z2; have h3 := Z3; have h4 := Z4
    unfold Sz at h2 h3 h4
    omega
   ·have e' : i = D := by simpa using e
    have := HD.out
    have := E3.out.fr.size
    omega
 case stop =>
  rintro D cd pre W hD hpre ⟨hE, x, hx, hz, hb4, rfl⟩ hK
  have KD := Lib.hid hK
  have HD := Lib.hid hD
  have hV : Hid (validO s = false) := by
   simp only [Hid]
   rw [Bool.eq_false_iff]
   intro h
   rw [validO, List.all_eq_true] at h
   have := h x (hpre.subset hx)
   simp only [beq_iff_eq] at this
   exact hz this
  obtain ⟨n, b2⟩ := hE.b2
  obtain ⟨a, b3⟩ := hE.b3
  have HE := Lib.hid hE
  have HZ := Lib.hid hz
  have B2 := Lib.hid b2
  have B3 := Lib.hid b3
  have B4 := Lib.hid hb4
  clear hE b2 b3 hb4 hz hK hD hpre hx
  gi_wp2
  refine ⟨by simp, .inl ⟨_, _, rfl, run_takeDeferred KD.out, ?_⟩⟩
  have PF : Fr (fun k => some k = some D) W (W.putObj D (.deferred none)) := Fr.grown (grownBy_putObj' W D _)
  have nD : ∀ g t cs, Blk W g t cs → ¬ (some g = some D) := fun g t cs hb e => by
   have e' : g = D := by simpa using e
   subst e'
   unfold Blk at hb
   rw [KD.out] at hb
   cases hb
  refine ⟨_, results_parse _ _ g2 g3 g4 n a x.e rfl rfl rfl (B2.out.fr PF (nD _ _ _ B2.out)) (B3.out.fr PF (nD _ _ _ B3.out)) (B4.out.fr PF (nD _ _ _ B4.out)), ⟨_, _, _, rfl, ?_, ?_⟩⟩
  ·rw [hV.out, beq_eq_false_iff_ne]
   have := HZ.out
   omega
  ·refine HE.out.fr.then_ PF (fun i hi e => ?_)
   have e' : i = D := by simpa using e
   have := HD.out
   have := E3.out.fr.size
   omega
set_option maxRecDepth 100000 in
theorem Valid_any (s : ByteArray) (w : World) (hs : s.size ≤ 1099511627776) : Calls Tryz.prog 77 #[.string s] w (Same' w (.bool (validO s))) := by
 have CP := Lib.hid (Parse_any s w hs)
 go_enter Tryz.func77, Tryz.ntmps77
 go_wp2_with fail
 refine CP.out.mono ?_
 rintro e w1 ⟨n, a, k, rfl, hk, f1⟩
 have HK := Lib.hid hk
 have F1 := Lib.hid f1
 clear hk f1 CP
 go_wp2
 go_ret
 rw [HK.out]
 exact ⟨rfl, F1.out⟩
end Go.Proofs.YtpnchdgplpdefaaGreatDoor
