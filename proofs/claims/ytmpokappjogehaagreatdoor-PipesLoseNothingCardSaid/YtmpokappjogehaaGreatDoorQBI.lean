/- Steps of the proof of LawPipesLoseNothing: contracts of the functions that the law reaches, for every world that holds what each of them asks. -/
import Derived.Test.YtmpokappjogehaaGreatDoorQBH
import Derived.Test.YtmpokappjogehaaGreatDoorQBD
import Derived.Test.YtmpokappjogehaaGreatDoorQBG
import Derived.Test.YtmpokappjogehaaGreatDoorQAZ
set_option linter.unusedVariables false
set_option linter.unusedSimpArgs false
namespace Go.Proofs.YtmpokappjogehaaGreatDoor
namespace Ev
open Go Go.RowKit
def cvS (c : ECall) : CV := ⟨c.nm.nv, match c.value with | .str s => s.ba | _ => ByteArray.empty, c.absent⟩
def isS (c : ECall) : Bool := match c.value with | .str _ => true | _ => false
theorem cvS_eq {ρ : Nat → Value} {c : ECall} (h : isS c = true) : c.cv ρ = some (cvS c) := by
  obtain ⟨n, v, a⟩ := c
  cases v <;> simp only [isS, Bool.false_eq_true] at h
  rfl
theorem cvS_all {ρ : Nat → Value} : ∀ {l : List ECall}, l.all isS = true → allO (l.map (ECall.cv ρ)) = some (l.map cvS)
  | [], _ => rfl
  | c :: l, h => by
    rw [List.all_cons, Bool.and_eq_true] at h
    simp only [List.map_cons, cvS_eq h.1, allO, cvS_all h.2]
def mkR (n : Nat) (a b c d : Value) : Nat → Value
  | 0 => .int .i64 (n : Int)
  | 1 => a
  | 2 => b
  | 3 => c
  | 4 => d
  | _ => undef
/-- The pipe's value in a list of calls, and all others. -/
def LastIs (Lb : List CV) (rest : List ECall) (wr : Nat) (q : ByteArray) : Prop := ∀ n, lastC Lb n = if nBirth 11 bB = n then some ⟨nBirth 11 bB, encB ⟨0, 1, wr, q⟩, false⟩ else lastC (rest.map cvS).reverse n
structure PW (w0 W : World) (v : Nat) (S : Nat → Prop) (rest : List ECall) (wr : Nat) (q : ByteArray) (k : Nat) : Prop where
  fr : Fr Nothing w0 W
  usa : UsaT W
  pos : 0 < w0.heap.size
  new : ∀ b, S b → w0.heap.size ≤ b ∧ b < W.heap.size
  own : S v
  le : q.size ≤ 256
  view : ∃ Lb s, ViewC W v Lb ∧ VBase W v s ∧ S s ∧ (∀ b, VB W v b → S b) ∧ Lb.length ≤ k ∧ LastIs Lb rest wr q
theorem oldP_cv {ρ : Nat → Value} {P : ByteArray} (h : ρ 1 = .string P) (hs : P.size ≤ 65536) : oldP.cv ρ = some ⟨nBirth 11 bB, P, false⟩ := by
  have e : (EV.sstr 1 0 65536).conc (fun _ => none) ρ = some (.string P) := by
    simp only [EV.conc, h]
    rw [if_pos ⟨Nat.zero_le _, hs⟩]
  unfold ECall.cv
  show (match (EV.sstr 1 0 65536).conc (fun _ => none) ρ with | some (.string x) => _ | _ => _) = _
  rw [e]
  rfl
/-- What a turn leaves. -/
def Ran (w0 W : World) (v : Nat) (S : Nat → Prop) (rest : List ECall) (wr : Nat) (q : ByteArray) (k : Nat) (x2 x3 P4 : Value) (r : EV) (l' : List ECall) (e : Ending) (W' : World) : Prop :=
  ∃ (u : Value) (n : Nat) (Lb L : List CV) (S' : Nat → Prop) (s : Nat), e = .returned u ∧ r.conc (fun _ => none) (mkR n (.string (encB ⟨0, 1, wr, q⟩)) x2 x3 P4) = some u ∧ allO (l'.map (ECall.cv (mkR n (.string (encB ⟨0, 1, wr, q⟩)) x2 x3 P4))) = some L ∧ Fr S W W' ∧ Fr Nothing w0 W' ∧ UsaT W' ∧
    (∀ b, S' b → w0.heap.size ≤ b ∧ b < W'.heap.size) ∧ S' v ∧ ViewC W' v (Lb ++ L.reverse) ∧ VBase W' v s ∧ S' s ∧ (∀ b, VB W' v b → S' b) ∧ Lb.length ≤ 100000 ∧ Lb.length ≤ k ∧ LastIs Lb rest wr q
theorem PW.run {K : Caller XO} {f : Nat} {args : List EV} {r : EV} {l' rest : List ECall} {us : List Value} {x2 x3 P4 : Value} {w0 W : World} {v k wr : Nat} {S : Nat → Prop} {q : ByteArray} (h : PW w0 W v S rest wr q k) (hk : k ≤ 100000) (hr : rest.all isS = true)
    (hK : ∀ n : Nat, CallOk (TX (mkR n (.string (encB ⟨0, 1, wr, q⟩)) x2 x3 P4)) Tryz.prog (mkR n (.string (encB ⟨0, 1, wr, q⟩)) x2 x3 P4) K)
    (hrun : viewRun K f args (vb (oldP :: rest)) [] = some (r, vb (oldP :: rest), l')) (hu : ∀ n : Nat, EV.concs (fun _ => none) (mkR n (.string (encB ⟨0, 1, wr, q⟩)) x2 x3 P4) args = some us) :
    Calls Tryz.prog f (.pointer (some ⟨v, 0, none⟩) :: us).toArray W (Ran w0 W v S rest wr q k x2 x3 P4 r l') := by
  obtain ⟨Lb, s, hV, hB, hs, hvb, hlk, hlast⟩ := h.view
  have hbase : BaseOk (mkR Lb.length (.string (encB ⟨0, 1, wr, q⟩)) x2 x3 P4) (vb (oldP :: rest)) Lb := by
    refine ⟨⟨nBirth 11 bB, encB ⟨0, 1, wr, q⟩, false⟩ :: rest.map cvS, ?_, fun n => ?_, rfl, by omega⟩
    · rw [List.map_cons, oldP_cv (P := encB ⟨0, 1, wr, q⟩) rfl (encB_size h.le)]
      simp only [allO, cvS_all hr]
    · rw [hlast, List.reverse_cons, lastC_snoc]
  have hI : IX (mkR Lb.length (.string (encB ⟨0, 1, wr, q⟩)) x2 x3 P4) (.view (vb (oldP :: rest)) []) S W v :=
    ⟨Lb, [], s, hbase, rfl, by rw [List.reverse_nil, List.append_nil]; exact hV, hB, hvb, hs⟩
  refine (turn_ok (hK Lb.length) hrun h.usa (Nat.lt_of_lt_of_le h.pos h.fr.size) (fun b hb => ⟨Nat.lt_of_lt_of_le h.pos (h.new b hb).1, (h.new b hb).2⟩) h.own hI (hu Lb.length)).mono ?_
  rintro e W' ⟨S', ⟨u, rfl, hru⟩, hf, hU', ho, hl, hv', Lb', L', s', hb', hL', hV', hB', hvb', hs'⟩
  obtain ⟨L0, c1, c2, c3, c4⟩ := hb'
  have hlen : Lb'.length = Lb.length := by
    have c3' : Value.int .i64 ((Lb.length : Nat) : Int) = .int .i64 ((Lb'.length : Nat) : Int) := c3
    injection c3' with _ c3'
    omega
  obtain ⟨L1, d1, d2, d3, d4⟩ := hbase
  rw [c1] at d1
  injection d1 with d1
  subst d1
  refine ⟨u, Lb.length, Lb', L', S', s', rfl, hru, hL', hf, h.fr.then_ hf (fun i hi hS => absurd (h.new i hS).1 (Nat.not_le.2 hi)), hU', fun b hb => ⟨?_, hl b hb⟩, hv', hV', hB', hs', hvb', by omega, by omega, fun n => ?_⟩
  · rcases ho b hb with q1 | q1
    · exact (h.new b q1).1
    · exact Nat.le_trans h.fr.size q1
  · rw [c2, ← d2, hlast]
/-- Nothing was written. -/
theorem Ran.same {w0 W W' : World} {v k wr : Nat} {S : Nat → Prop} {rest : List ECall} {q : ByteArray} {x2 x3 P4 : Value} {r : EV} {e : Ending} (h : Ran w0 W v S rest wr q k x2 x3 P4 r [] e W') (hp : 0 < w0.heap.size) (hq : q.size ≤ 256) :
    ∃ (u : Value) (n : Nat) (S' : Nat → Prop), e = .returned u ∧ r.conc (fun _ => none) (mkR n (.string (encB ⟨0, 1, wr, q⟩)) x2 x3 P4) = some u ∧ PW w0 W' v S' rest wr q (k + 1) := by
  obtain ⟨u, n, Lb, L, S', s, h1, h2, h3, h4, h5, h6, h7, h8, h9, h10, h11, h12, h13, h14, h15⟩ := h
  simp only [List.map_nil, allO, Option.some.injEq] at h3
  subst h3
  rw [List.reverse_nil, List.append_nil] at h9
  exact ⟨u, n, S', h1, h2, h5, h6, hp, h7, h8, hq, Lb, s, h9, h10, h11, h12, by omega, h15⟩
/-- The pipe was written. -/
theorem Ran.wrote {w0 W W' : World} {v k wr : Nat} {S : Nat → Prop} {rest : List ECall} {q q' : ByteArray} {x2 x3 : Value} {r : EV} {e : Ending} (h : Ran w0 W v S rest wr q k x2 x3 (.string (encB ⟨0, 1, wr, q'⟩)) r [newP] e W') (hp : 0 < w0.heap.size) (hq : q'.size ≤ 256) :
    ∃ (u : Value) (n : Nat) (S' : Nat → Prop), e = .returned u ∧ r.conc (fun _ => none) (mkR n (.string (encB ⟨0, 1, wr, q⟩)) x2 x3 (.string (encB ⟨0, 1, wr, q'⟩))) = some u ∧ PW w0 W' v S' rest wr q' (k + 1) := by
  obtain ⟨u, n, Lb, L, S', s, h1, h2, h3, h4, h5, h6, h7, h8, h9, h10, h11, h12, h13, h14, h15⟩ := h
  have hc := newP_cv (ρ := mkR n (.string (encB ⟨0, 1, wr, q⟩)) x2 x3 (.string (encB ⟨0, 1, wr, q'⟩))) (P := encB ⟨0, 1, wr, q'⟩) rfl (encB_size hq)
  simp only [List.map_cons, List.map_nil, hc, allO, Option.some.injEq] at h3
  subst h3
  refine ⟨u, n, S', h1, h2, h5, h6, hp, h7, h8, hq, _, s, h9, h10, h11, h12, by rw [List.length_append]; show Lb.length + 1 ≤ k + 1; omega, fun m => ?_⟩
  show lastC (Lb ++ [_]) m = _
  rw [lastC_snoc, h15]
  by_cases e : nBirth 11 bB = m
  · rw [if_pos e, if_pos e]
  · rw [if_neg e, if_neg e, if_neg e]
/-- The writer's end was closed. -/
theorem Ran.closed {w0 W W' : World} {v k : Nat} {S : Nat → Prop} {rest : List ECall} {q : ByteArray} {x2 x3 : Value} {r : EV} {e : Ending} (h : Ran w0 W v S rest 1 q k x2 x3 (.string (encB ⟨0, 1, 0, q⟩)) r [newP, dcl] e W') (hp : 0 < w0.heap.size) (hq : q.size ≤ 256) :
    ∃ (u : Value) (n : Nat) (S' : Nat → Prop), e = .returned u ∧ r.conc (fun _ => none) (mkR n (.string (encB ⟨0, 1, 1, q⟩)) x2 x3 (.string (encB ⟨0, 1, 0, q⟩))) = some u ∧ PW w0 W' v S' (dcl :: rest) 0 q (k + 2) := by
  obtain ⟨u, n, Lb, L, S', s, h1, h2, h3, h4, h5, h6, h7, h8, h9, h10, h11, h12, h13, h14, h15⟩ := h
  have hc := newP_cv (ρ := mkR n (.string (encB ⟨0, 1, 1, q⟩)) x2 x3 (.string (encB ⟨0, 1, 0, q⟩))) (P := encB ⟨0, 1, 0, q⟩) rfl (encB_size hq)
  simp only [List.map_cons, List.map_nil, hc, cvS_eq (c := dcl) rfl, allO, Option.some.injEq] at h3
  subst h3
  refine ⟨u, n, S', h1, h2, h5, h6, hp, h7, h8, hq, _, s, h9, h10, h11, h12, by rw [List.length_append]; show Lb.length + 2 ≤ k + 2; omega, fun m => ?_⟩
  have e1 : Lb ++ [(⟨nBirth 11 bB, encB ⟨0, 1, 0, q⟩, false⟩ : CV), cvS dcl].reverse = (Lb ++ [cvS dcl]) ++ [⟨nBirth 11 bB, encB ⟨0, 1, 0, q⟩, false⟩] := by simp
  rw [e1, lastC_snoc, lastC_snoc, List.map_cons, List.reverse_cons, lastC_snoc, h15]
  by_cases e : nBirth 11 bB = m
  · rw [if_pos e, if_pos e]
  · rw [if_neg e, if_neg e, if_neg e]

/-! ### The turns -/
def whoB1 : ByteArray := (⟨1, 49⟩ : Str).ba
def whoB2 : ByteArray := (⟨3, 3223089⟩ : Str).ba
theorem rest16 : lv16.all isS = true := by kernel_rfl
theorem rest17 : (dcl :: lv16).all isS = true := by kernel_rfl
theorem WriteFD_any {w0 W : World} {v k : Nat} {S : Nat → Prop} {q : ByteArray} (h : PW w0 W v S lv16 1 q k) (hk : k ≤ 100000) (s : ByteArray) (hs : s.size ≤ 255) :
    Calls Tryz.prog 10 #[.pointer (some ⟨v, 0, none⟩), .string whoB1, .int .i64 1, .string s] W (fun e W' => ∃ (n : Nat) (er : Int) (q' : ByteArray) (S' : Nat → Prop),
      e = .returned (.tuple #[.int .i64 (n : Int), .int .i64 er]) ∧ (er = 0 ∨ er = 19) ∧ n ≤ s.size ∧ q' = q ++ s.extract 0 n ∧ PW w0 W' v S' lv16 1 q' (k + 1)) := by
  have hq := h.le
  have hp := h.pos
  have hu : ∀ (x3 P4 : Value) (n : Nat), EV.concs (fun _ => none) (mkR n (.string (encB ⟨0, 1, 1, q⟩)) (.string s) x3 P4) [who1, .int .i64 (.ofNat 1), .sstr 2 0 255] = some [.string whoB1, .int .i64 1, .string s] := fun x3 P4 n => by
    have e : (EV.sstr 2 0 255).conc (fun _ => none) (mkR n (.string (encB ⟨0, 1, 1, q⟩)) (.string s) x3 P4) = some (.string s) := by
      simp only [EV.conc, mkR]
      rw [if_pos ⟨Nat.zero_le _, hs⟩]
    exact concs_mk rfl (concs_mk rfl (concs_mk e rfl))
  have e0 : ∀ x : ByteArray, x ++ s.extract 0 0 = x := fun x => by rw [extract_nil]; exact ByteArray.append_empty
  by_cases h0 : s.size = 0
  · refine (h.run hk rest16 (fun n => kW_ok (c := 0) (q := q) (s := s) ⟨hq, by omega, rfl, rfl, h0⟩) tw0 (hu undef undef)).mono ?_
    intro e W' hR
    obtain ⟨u, n, S', rfl, h2, h3⟩ := hR.same hp hq
    have h2' : some (Value.tuple #[.int .i64 ((0 : Nat) : Int), .int .i64 0]) = some u := h2
    injection h2' with h2'
    subst h2'
    exact ⟨0, 0, q, S', rfl, .inl rfl, Nat.zero_le _, (e0 q).symm, h3⟩
  by_cases h1 : q.size = 256
  · refine (h.run hk rest16 (fun n => kW_ok (c := 1) (q := q) (s := s) ⟨hq, by omega, rfl, rfl, h0, h1⟩) tw1 (hu undef undef)).mono ?_
    intro e W' hR
    obtain ⟨u, n, S', rfl, h2, h3⟩ := hR.same hp hq
    have h2' : some (Value.tuple #[.int .i64 ((0 : Nat) : Int), .int .i64 19]) = some u := h2
    injection h2' with h2'
    subst h2'
    exact ⟨0, 19, q, S', rfl, .inr rfl, Nat.zero_le _, (e0 q).symm, h3⟩
  obtain ⟨c, hc⟩ : ∃ c, c = min s.size (256 - q.size) := ⟨_, rfl⟩
  have hz : (q ++ s.extract 0 c).size ≤ 256 := by
    rw [ByteArray.size_append, ByteArray.size_extract]
    omega
  refine (h.run hk rest16 (x3 := .int .i64 (c : Int)) (P4 := .string (encB ⟨0, 1, 1, q ++ s.extract 0 c⟩)) (fun n => kW_ok (c := 2) (q := q) (s := s) ⟨hq, by omega, rfl, rfl, h0, by omega, by rw [← hc]; rfl, by rw [← hc]; rfl⟩) tw2 (hu _ _)).mono ?_
  intro e W' hR
  obtain ⟨u, n, S', rfl, h2, h3⟩ := hR.wrote hp hz
  have e3 : (EV.sint .i64 3 (.ofNat 0) (.ofNat 256)).conc (fun _ => none) (mkR n (.string (encB ⟨0, 1, 1, q⟩)) (.string s) (.int .i64 (c : Int)) (.string (encB ⟨0, 1, 1, q ++ s.extract 0 c⟩))) = some (.int .i64 (c : Int)) := by
    simp only [EV.conc, mkR]
    exact if_pos ⟨by show (0 : Int) ≤ _; omega, by show _ ≤ (256 : Int); omega⟩
  rw [EV.conc, concs_mk e3 (concs_mk (show okE.conc _ _ = some (.int .i64 0) from rfl) (show EV.concs _ _ [] = some [] from rfl))] at h2
  injection h2 with h2
  subst h2
  exact ⟨c, 0, _, S', rfl, .inl rfl, by omega, rfl, h3⟩
theorem ReadFD_any {w0 W : World} {v k wr : Nat} {S : Nat → Prop} {q : ByteArray} (h : PW w0 W v S (if wr = 0 then dcl :: lv16 else lv16) wr q k) (hw : wr = 0 ∨ wr = 1) (hk : k ≤ 100000) (most : Nat) (hm : most ≤ 4096) :
    Calls Tryz.prog 11 #[.pointer (some ⟨v, 0, none⟩), .string whoB2, .int .i64 0, .int .i64 (most : Int)] W (fun e W' => ∃ (n : Nat) (er : Int) (S' : Nat → Prop),
      e = .returned (.tuple #[.string (q.extract 0 n), .int .i64 er]) ∧ (er = 0 ∨ er = 19) ∧ n ≤ most ∧ n ≤ q.size ∧ (wr = 0 → er = 0 ∧ n = min most q.size) ∧ PW w0 W' v S' (if wr = 0 then dcl :: lv16 else lv16) wr (q.extract n q.size) (k + 1)) := by
  have hq := h.le
  have hp := h.pos
  have hu : ∀ (x3 P4 : Value) (n : Nat), EV.concs (fun _ => none) (mkR n (.string (encB ⟨0, 1, wr, q⟩)) (.int .i64 (most : Int)) x3 P4) [who2, .int .i64 (.ofNat 0), .sint .i64 2 (.ofNat 0) (.ofNat 4096)] = some [.string whoB2, .int .i64 0, .int .i64 (most : Int)] := fun x3 P4 n => by
    have e : (EV.sint .i64 2 (.ofNat 0) (.ofNat 4096)).conc (fun _ => none) (mkR n (.string (encB ⟨0, 1, wr, q⟩)) (.int .i64 (most : Int)) x3 P4) = some (.int .i64 (most : Int)) := by
      simp only [EV.conc, mkR]
      exact if_pos ⟨by show (0 : Int) ≤ _; omega, by show _ ≤ (4096 : Int); omega⟩
    exact concs_mk rfl (concs_mk rfl (concs_mk e rfl))
  have hrest : (if wr = 0 then dcl :: lv16 else lv16).all isS = true := by
    by_cases e : wr = 0
    · rw [if_pos e]; exact rest17
    · rw [if_neg e]; exact rest16
  have w1 : wr ≤ 1 := by omega
  have run0 : viewRun (kR 0) 11 [who2, .int .i64 (.ofNat 0), .sint .i64 2 (.ofNat 0) (.ofNat 4096)] (vb (oldP :: (if wr = 0 then dcl :: lv16 else lv16))) [] = some (.tup [.str ⟨0, 0⟩, okE], vb (oldP :: (if wr = 0 then dcl :: lv16 else lv16)), []) := by
    by_cases e : wr = 0
    · rw [if_pos e]; exact tz0
    · rw [if_neg e]; exact tr0
  have run2 : viewRun (kR 2) 11 [who2, .int .i64 (.ofNat 0), .sint .i64 2 (.ofNat 0) (.ofNat 4096)] (vb (oldP :: (if wr = 0 then dcl :: lv16 else lv16))) [] = some (.tup [.sstr 3 0 256, okE], vb (oldP :: (if wr = 0 then dcl :: lv16 else lv16)), [newP]) := by
    by_cases e : wr = 0
    · rw [if_pos e]; exact tz2
    · rw [if_neg e]; exact tr2
  by_cases h0 : most = 0 ∨ (q.size = 0 ∧ wr = 0)
  · refine (h.run hk hrest (fun n => kR_ok (c := 0) (wr := wr) (q := q) (most := most) ⟨hq, w1, rfl, rfl, h0⟩) run0 (hu undef undef)).mono ?_
    intro e W' hR
    obtain ⟨u, n, S', rfl, h2, h3⟩ := hR.same hp hq
    have h2' : some (Value.tuple #[.string ByteArray.empty, .int .i64 0]) = some u := h2
    injection h2' with h2'
    subst h2'
    refine ⟨0, 0, S', by rw [extract_nil], .inl rfl, Nat.zero_le _, Nat.zero_le _, fun _ => ⟨rfl, by omega⟩, by rw [extract_all]; exact h3⟩
  by_cases h1 : q.size = 0
  · have hwr : wr = 1 := by omega
    subst hwr
    refine (h.run hk hrest (fun n => kR_ok (c := 1) (wr := 1) (q := q) (most := most) ⟨hq, w1, rfl, rfl, by omega, h1, by decide⟩) tr1 (hu undef undef)).mono ?_
    intro e W' hR
    obtain ⟨u, n, S', rfl, h2, h3⟩ := hR.same hp hq
    have h2' : some (Value.tuple #[.string ByteArray.empty, .int .i64 19]) = some u := h2
    injection h2' with h2'
    subst h2'
    refine ⟨0, 19, S', by rw [extract_nil], .inr rfl, Nat.zero_le _, Nat.zero_le _, fun e => (by cases e), by rw [extract_all]; exact h3⟩
  obtain ⟨c, hc⟩ : ∃ c, c = min most q.size := ⟨_, rfl⟩
  have hz : (q.extract c q.size).size ≤ 256 := by
    rw [ByteArray.size_extract]
    omega
  have hz0 : (q.extract 0 c).size ≤ 256 := by
    rw [ByteArray.size_extract]
    omega
  refine (h.run hk hrest (x3 := .string (q.extract 0 c)) (P4 := .string (encB ⟨0, 1, wr, q.extract c q.size⟩)) (fun n => kR_ok (c := 2) (wr := wr) (q := q) (most := most) ⟨hq, w1, rfl, rfl, by omega, h1, by rw [← hc]; rfl, by rw [← hc]; rfl⟩) run2 (hu _ _)).mono ?_
  intro e W' hR
  obtain ⟨u, n, S', rfl, h2, h3⟩ := hR.wrote hp hz
  have e3 : (EV.sstr 3 0 256).conc (fun _ => none) (mkR n (.string (encB ⟨0, 1, wr, q⟩)) (.int .i64 (most : Int)) (.string (q.extract 0 c)) (.string (encB ⟨0, 1, wr, q.extract c q.size⟩))) = some (.string (q.extract 0 c)) := by
    simp only [EV.conc, mkR]
    exact if_pos ⟨Nat.zero_le _, hz0⟩
  rw [EV.conc, concs_mk e3 (concs_mk (show okE.conc _ _ = some (.int .i64 0) from rfl) (show EV.concs _ _ [] = some [] from rfl))] at h2
  injection h2 with h2
  subst h2
  exact ⟨c, 0, S', rfl, .inl rfl, by omega, by omega, fun _ => ⟨rfl, hc⟩, h3⟩
theorem CloseFD_any {w0 W : World} {v k : Nat} {S : Nat → Prop} {q : ByteArray} (h : PW w0 W v S lv16 1 q k) (hk : k ≤ 100000) :
    Calls Tryz.prog 8 #[.pointer (some ⟨v, 0, none⟩), .string whoB1, .int .i64 1] W (fun e W' => ∃ S' : Nat → Prop, e = .returned (.int .i64 0) ∧ PW w0 W' v S' (dcl :: lv16) 0 q (k + 2)) := by
  have hq := h.le
  have hp := h.pos
  refine (h.run hk rest16 (x2 := undef) (x3 := undef) (P4 := .string (encB ⟨0, 1, 0, q⟩)) (us := [.string whoB1, .int .i64 1]) (fun n => kL_ok (q := q) ⟨hq, rfl, rfl⟩) tc (fun n => rfl)).mono ?_
  intro e W' hR
  obtain ⟨u, n, S', rfl, h2, h3⟩ := hR.closed hp hq
  have h2' : some (Value.int .i64 0) = some u := h2
  injection h2' with h2'
  subst h2'
  exact ⟨S', rfl, h3⟩
end Ev
end Go.Proofs.YtmpokappjogehaaGreatDoor

namespace Go.Proofs.YtmpokappjogehaaGreatDoor
namespace Ev
open Go Go.RowKit
def rho0 : Nat → Value := fun _ => undef
/-- A machine whose calls are all known. -/
structure MSt (w0 W : World) (v : Nat) (S : Nat → Prop) (l : List ECall) : Prop where
  fr : Fr Nothing w0 W
  usa : UsaT W
  pos : 0 < w0.heap.size
  new : ∀ b, S b → w0.heap.size ≤ b ∧ b < W.heap.size
  own : S v
  ix : IX rho0 (.view none l) S W v
theorem machine_any (w : World) (hU : UsaT w) (hw : 0 < w.heap.size) : Calls Tryz.prog 4 #[] w (fun e w' => ∃ (v : Nat) (S : Nat → Prop), e = .returned (.tuple #[.pointer (some ⟨v, 0, none⟩), .bool true]) ∧ MSt w w' v S lv12) := by
  obtain ⟨m, id, hr, hg⟩ := machine_m
  refine ((runE_ok (kM_ok (kSt_ok rho0)) _ _ _ _ _ hr).2 (fun _ => none) (fun _ => none) w [] rfl (empty_rel _ hU hw)).mono ?_
  rintro e w' ⟨u, σ', own', rfl, hu, hH, hst⟩
  obtain ⟨b, c, q1, q2, q3⟩ := hH.obj id _ hg
  have hp : (EV.ptr id 0).conc σ' rho0 = some (.pointer (some ⟨b, 0, none⟩)) := by
    simp only [EV.conc, q1]
  rw [EV.conc, concs_mk hp (concs_mk (show (EV.bool true).conc _ _ = some (.bool true) from rfl) (show EV.concs _ _ [] = some [] from rfl))] at hu
  injection hu with hu
  subst hu
  refine ⟨b, fun k => own' k = some id, rfl, hst.fr.mono fun k _ ⟨r, h⟩ => (by cases h), hH.g, hw, fun k hk => ⟨Nat.le_of_not_lt fun hlt => ?_, (hH.ow k id hk).1⟩, q2, q3⟩
  have := hst.old k hlt rfl
  rw [this] at hk
  cases hk
theorem MSt.turn {w0 W : World} {v : Nat} {S : Nat → Prop} {l l' : List ECall} (h : MSt w0 W v S l) {f : Nat} {args : List EV} {r : EV} {us : List Value} {u : Value}
    (hrun : viewRun kSt f args none l = some (r, none, l')) (hu : EV.concs (fun _ => none) rho0 args = some us) (hr : r.conc (fun _ => none) rho0 = some u) :
    Calls Tryz.prog f (.pointer (some ⟨v, 0, none⟩) :: us).toArray W (fun e W' => ∃ S', e = .returned u ∧ MSt w0 W' v S' l') := by
  refine (turn_ok (kSt_ok rho0) hrun h.usa (Nat.lt_of_lt_of_le h.pos h.fr.size) (fun b hb => ⟨Nat.lt_of_lt_of_le h.pos (h.new b hb).1, (h.new b hb).2⟩) h.own h.ix hu).mono ?_
  rintro e W' ⟨S', ⟨u', rfl, hr'⟩, hf, hU', ho, hl, hv', hi⟩
  rw [hr] at hr'
  injection hr' with hr'
  subst hr'
  refine ⟨S', rfl, h.fr.then_ hf (fun i hi hS => absurd (h.new i hS).1 (Nat.not_le.2 hi)), hU', h.pos, fun b hb => ⟨?_, hl b hb⟩, hv', hi⟩
  rcases ho b hb with q | q
  · exact (h.new b q).1
  · exact Nat.le_trans h.fr.size q
theorem MakePipe_st {w0 W : World} {v : Nat} {S : Nat → Prop} (h : MSt w0 W v S lv12) :
    Calls Tryz.prog 6 #[.pointer (some ⟨v, 0, none⟩), .string whoB1] W (fun e W' => ∃ S', e = .returned (.tuple #[.int .i64 0, .int .i64 1, .int .i64 0]) ∧ MSt w0 W' v S' lv13) :=
  h.turn (us := [.string whoB1]) st13 rfl rfl
theorem Spawn_st {w0 W : World} {v : Nat} {S : Nat → Prop} (h : MSt w0 W v S lv13) :
    Calls Tryz.prog 7 #[.pointer (some ⟨v, 0, none⟩), .string whoB1, .bool false] W (fun e W' => ∃ S', e = .returned (.tuple #[.string whoB2, .int .i64 0]) ∧ MSt w0 W' v S' lv14) :=
  h.turn (us := [.string whoB1, .bool false]) st14 rfl rfl
theorem Close0_st {w0 W : World} {v : Nat} {S : Nat → Prop} (h : MSt w0 W v S lv14) :
    Calls Tryz.prog 8 #[.pointer (some ⟨v, 0, none⟩), .string whoB1, .int .i64 0] W (fun e W' => ∃ S', e = .returned (.int .i64 0) ∧ MSt w0 W' v S' lv15) :=
  h.turn (us := [.string whoB1, .int .i64 0]) st15 rfl rfl
theorem lv16_lt : lv16.length ≤ 100 := by decide
def hd16 : ECall := mkC 11 ⟨1, 49⟩ 0 0 ⟨0, 0⟩ ⟨4, 65792⟩
theorem hd16_cv : cvS hd16 = ⟨nBirth 11 bB, encB ⟨0, 1, 1, ByteArray.empty⟩, false⟩ := by kernel_rfl
theorem last16 : LastIs (lv16.map cvS).reverse lv16 1 ByteArray.empty := by
  intro n
  have e : (lv16.map cvS).reverse = ((lv16.tail.map cvS).reverse) ++ [cvS hd16] := rfl
  rw [e, lastC_snoc, hd16_cv]
  by_cases h : nBirth 11 bB = n
  · rw [if_pos h, if_pos h]
  · rw [if_neg h, if_neg h]
theorem Close1_st {w0 W : World} {v : Nat} {S : Nat → Prop} (h : MSt w0 W v S lv15) :
    Calls Tryz.prog 8 #[.pointer (some ⟨v, 0, none⟩), .string whoB2, .int .i64 1] W (fun e W' => ∃ S', e = .returned (.int .i64 0) ∧ PW w0 W' v S' lv16 1 ByteArray.empty 100) := by
  refine (h.turn (us := [.string whoB2, .int .i64 1]) st16 rfl rfl).mono ?_
  rintro e W' ⟨S', rfl, h1, h2, h3, h4, h5, Lb, L, s, hb, hL, hV, hB, hvb, hs⟩
  have hb' : Lb = [] := hb
  subst hb'
  rw [cvS_all rest16] at hL
  injection hL with hL
  subst hL
  rw [List.nil_append] at hV
  exact ⟨S', rfl, h1, h2, h3, h4, h5, Nat.zero_le _, _, s, hV, hB, hs, hvb, by rw [List.length_reverse, List.length_map]; exact lv16_lt, last16⟩
end Ev
end Go.Proofs.YtmpokappjogehaaGreatDoor

namespace Go.Proofs.YtmpokappjogehaaGreatDoor
open Go.RowKit

theorem zinfoU8 : (Tryz.prog.info? 5).map (fun i => (i.zero, i.size, i.bytes)) = some (some (.int .u8 0), 1, 1) := by kernel_rfl
def u8s (ys : List Int) : Prop := ∀ y ∈ ys, 0 ≤ y ∧ y ≤ 255
theorem u8_range (x : Int) : 0 ≤ IntKind.u8.wrap x ∧ IntKind.u8.wrap x ≤ 255 := by rw [IntKind.wrap_u8]; omega
theorem u8_bytes : ∀ (ys : List Int), u8s ys → ∃ l : List UInt8, l.length = ys.length ∧ l.map bv = ys.map (Value.int .u8)
  | [], _ => ⟨[], rfl, rfl⟩
  | y :: ys, h => by
    obtain ⟨l, h1, h2⟩ := u8_bytes ys (fun z hz => h z (List.mem_cons_of_mem _ hz))
    obtain ⟨q1, q2⟩ := h y (List.mem_cons_self ..)
    refine ⟨UInt8.ofNat y.toNat :: l, by simp [h1], ?_⟩
    have e : ((UInt8.ofNat y.toNat).toNat : Int) = y := by
      rw [UInt8.toNat_ofNat']
      omega
    rw [List.map_cons, List.map_cons, h2]
    unfold bv
    rw [e]
set_option maxRecDepth 100000 in
set_option maxHeartbeats 4000000 in
theorem text_any0 (n f : Nat) (w : World) (hn : n ≤ 255) (_hf : f ≤ 255) : Calls Tryz.prog 9 #[.int .u16 (n : Nat), .int .u8 (f : Nat)] w (fun e w' => ∃ s : ByteArray, s.size = n ∧ e = .returned (.string s) ∧ Fr Nothing w w') := by
  obtain ⟨i0, hi, hz0, hz1, hz2⟩ := info_parts zinfoU8
  have HN := Lib.hid hn
  have r1 : (n : Int).tmod 700 = (n : Int) := by rw [Int.tmod_eq_emod_of_nonneg (by omega)]; omega
  have r3 : IntKind.i64.wrap (n : Int) = (n : Int) := IntWalk.i64_in _ (by omega)
  clear hn
  go_enter Tryz.func9, Tryz.ntmps9
  go_wp2_with (at_make; refine wpList_make_full _ rfl _ _ 22 rfl w.heap.size 5 i0 (.int .u8 0) 1 Tryz.underlying22 hi hz0 hz1 _ _ _ _ n rfl rfl rfl rfl ?c1 ?c2 (Nat.le_refl _) ?_)
  case c1 => rw [hz2]; have := HN.out; omega
  case c2 => unfold maxLen; have := HN.out; omega
  intro w1 hown hgr
  rw [toList_madeCells_one] at hown
  have f1 : Fr Nothing w w1 := (Fr.grown hgr).mono (fun k _ hk => by cases hk)
  obtain ⟨g, hg⟩ : ∃ g, g = w.heap.size := ⟨_, rfl⟩
  have GG : Hid (w.heap.size ≤ g) := Nat.le_of_eq hg.symm
  rw [← hg] at hown ⊢
  have B1 : Hid (Blk w1 g 5 ((List.replicate n (0 : Int)).map (Value.int .u8)).toArray) := by
    rcases hown.2 with ⟨e, _⟩ | ⟨g', cap, cur, e, _, h6, h7, h8, h9, h10⟩
    · cases e
    · injection e with e1 e2 e3
      injection e1 with e1
      injection e1 with e1
      subst e1 e3
      have hc : cur = ((List.replicate n (0 : Int)).map (Value.int .u8)).toArray := by
        rw [List.take_of_length_le (by simp [h9])] at h10
        rw [List.map_replicate]
        apply Array.toList_inj.1
        rw [h10]
      rw [← hc]
      exact h6
  have F1 := Lib.hid f1
  clear hown hgr f1 hg
  go_wp2
  go_loopw [6] (fun v wr => ∃ (k : Nat) (ys : List Int), k ≤ n ∧ v = .int .i64 k ∧ ys.length = n ∧ u8s ys ∧ Blk wr g 5 (ys.map (Value.int .u8)).toArray ∧ Fr Nothing w wr) (fun v _ => n - (intOf v).toNat)
  case atStart => exact ⟨0, List.replicate n 0, Nat.zero_le _, rfl, List.length_replicate, (fun y hy => by rw [List.eq_of_mem_replicate hy]; omega), B1.out, F1.out⟩
  case round =>
    obtain ⟨k, ys, hk, rfl, hl, hu, hb, hf⟩ := hrel
    have HL := Lib.hid hl
    have HU := Lib.hid hu
    have HB := Lib.hid hb
    have HF := Lib.hid hf
    clear hl hu hb hf B1 F1
    by_cases hlt : k < n
    · have t1 : (k : Int) < (n : Int) := by omega
      have t1' : decide ((k : Int) < (n : Int)) = true := decide_eq_true t1
      have t0 : (0 : Int) ≤ (k : Int) := by omega
      have d3 : (k : Int) + 1 = ((k + 1 : Nat) : Int) := by omega
      obtain ⟨k1, hk1⟩ : ∃ k1, k1 = k + 1 := ⟨_, rfl⟩
      rw [← hk1] at d3
      have HK1 := Lib.hid hk1
      have d4 : IntKind.i64.wrap (k1 : Int) = (k1 : Int) := IntWalk.i64_in _ (by have := HN.out; omega)
      clear hk1
      go_wp2_with (refine wpList_storeFld rfl 5 (.tmp 23) _ rfl g k _ rfl rfl rfl (by kernel_rfl) _ _ _ HB.out (by rw [List.size_toArray, List.length_map, HL.out]; exact hlt) rfl ?_)
      intro w2 b2 f2
      have B2 : Hid (Blk w2 g 5 ((ys.set k (((f : Int) + (k : Int)) % 256)).map (Value.int .u8)).toArray) := by
        rw [List.map_set]
        exact b2
      have F2 : Hid (Fr Nothing w w2) := HF.out.then_ f2 (fun q hq h => by have := GG.out; omega)
      have HK : Hid (k < n) := hlt
      clear b2 f2 HB HF
      go_wp2
      go_roundw
      case rel =>
        refine ⟨k1, _, by have := HK1.out; have := HK.out; omega, by go_num, by rw [List.length_set]; exact HL.out, ?_, B2.out, F2.out⟩
        intro y hy
        rcases List.mem_or_eq_of_mem_set hy with h | h
        · exact HU.out y h
        · omega
      case measure =>
        have := HK1.out
        have := HK.out
        simp [intOf]
        omega
    · obtain rfl : k = n := by omega
      have t0 : decide ((k : Int) < (k : Int)) = false := decide_eq_false (by omega)
      obtain ⟨l, hl1, hl2⟩ := u8_bytes ys HU.out
      have hcv : (convert 22 9 (.slice (some ⟨g, 0, none⟩) k k)).run Tryz.prog wr = .ok (.string ⟨l.toArray⟩) wr :=
        run_strT wr (fun q => q = g) _ k k l ⟨by rw [List.length_map, hl1, HL.out, Nat.mul_one], fun _ => ⟨_, rfl, rfl, fun j x hx => by
          have q := HB.out.cell j
          rw [List.getElem?_toArray, ← hl2] at q
          rw [show (⟨g, 0, none⟩ : Addr).add j = ⟨g, j, none⟩ by unfold Addr.add; split <;> simp_all, q]
          exact hx⟩⟩
      have HS : Hid ((⟨l.toArray⟩ : ByteArray).size = k) := by
        show l.toArray.size = k
        rw [List.size_toArray, hl1, HL.out]
      clear hl1 hl2
      go_wp2
      go_ret
      exact ⟨_, HS.out, rfl, HF.out⟩
end Go.Proofs.YtmpokappjogehaaGreatDoor

namespace Go.Proofs.YtmpokappjogehaaGreatDoor
namespace Ev
open Go Go.RowKit
theorem whoB1_eq : whoB1 = ⟨#[49]⟩ := by kernel_rfl
theorem Pipe1 {w0 W : World} {v : Nat} {S : Nat → Prop} (h : MSt w0 W v S lv12) :
    Calls Tryz.prog 6 #[.pointer (some ⟨v, 0, none⟩), .string ⟨#[49]⟩] W (fun e W' => ∃ S', e = .returned (.tuple #[.int .i64 0, .int .i64 1, .int .i64 0]) ∧ MSt w0 W' v S' lv13) := by
  have q := MakePipe_st h
  rw [whoB1_eq] at q
  exact q
theorem Spawn1 {w0 W : World} {v : Nat} {S : Nat → Prop} (h : MSt w0 W v S lv13) :
    Calls Tryz.prog 7 #[.pointer (some ⟨v, 0, none⟩), .string ⟨#[49]⟩, .bool false] W (fun e W' => ∃ S', e = .returned (.tuple #[.string whoB2, .int .i64 0]) ∧ MSt w0 W' v S' lv14) := by
  have q := Spawn_st h
  rw [whoB1_eq] at q
  exact q
theorem Close10 {w0 W : World} {v : Nat} {S : Nat → Prop} (h : MSt w0 W v S lv14) :
    Calls Tryz.prog 8 #[.pointer (some ⟨v, 0, none⟩), .string ⟨#[49]⟩, .int .i64 0] W (fun e W' => ∃ S', e = .returned (.int .i64 0) ∧ MSt w0 W' v S' lv15) := by
  have q := Close0_st h
  rw [whoB1_eq] at q
  exact q
/-- What holds between the turns. -/
def TurnInv (w0 W : World) (v : Nat) (sent got : ByteArray) (k : Nat) : Prop := ∃ S q, PW w0 W v S lv16 1 q (100 + k) ∧ sent = got ++ q ∧ sent.size ≤ 255 * k
theorem TurnInv.fr {w0 W : World} {v k : Nat} {sent got : ByteArray} (h : TurnInv w0 W v sent got k) : Fr Nothing w0 W := by obtain ⟨S, q, h, _⟩ := h; exact h.fr
theorem PW.fr0 {w0 W W' : World} {v k wr : Nat} {S : Nat → Prop} {rest : List ECall} {q : ByteArray} (h : PW w0 W v S rest wr q k) (hf : Fr Nothing W W') : PW w0 W' v S rest wr q k := by
  obtain ⟨Lb, s, hV, hB, hs, hvb, hlk, hl⟩ := h.view
  have e : W'.heap[v]? = W.heap[v]? := hf.block v hV.lt (fun x => x)
  refine ⟨h.fr.trans hf, h.usa.fr0 hf, h.pos, fun b hb => ⟨(h.new b hb).1, Nat.lt_of_lt_of_le (h.new b hb).2 hf.size⟩, h.own, h.le, Lb, s, hV.fr0 hf, ?_, hs, fun b hb => hvb b (vb_same e hb), hlk, hl⟩
  obtain ⟨cs, hb1, hc⟩ := hB
  exact ⟨cs, e.trans hb1, hc⟩
theorem TurnInv.sizes {w0 W : World} {v k : Nat} {sent got : ByteArray} (h : TurnInv w0 W v sent got k) : sent.size ≤ 255 * k ∧ got.size ≤ 255 * k := by
  obtain ⟨S, q, _, h2, h3⟩ := h
  have := congrArg ByteArray.size h2
  rw [ByteArray.size_append] at this
  omega
theorem TurnInv.fr0 {w0 W W' : World} {v k : Nat} {sent got : ByteArray} (h : TurnInv w0 W v sent got k) (hf : Fr Nothing W W') : TurnInv w0 W' v sent got k := by
  obtain ⟨S, q, h1, h2⟩ := h
  exact ⟨S, q, h1.fr0 hf, h2⟩
/-- A turn of the writer. -/
theorem TurnInv.write {w0 W : World} {v k : Nat} {sent got : ByteArray} (h : TurnInv w0 W v sent got k) (hk : k ≤ 60) (s : ByteArray) (hs : s.size ≤ 255) :
    Calls Tryz.prog 10 #[.pointer (some ⟨v, 0, none⟩), .string ⟨#[49]⟩, .int .i64 1, .string s] W (fun e W' => ∃ (n : Nat) (er : Int),
      e = .returned (.tuple #[.int .i64 (n : Int), .int .i64 er]) ∧ (er = 0 ∨ er = 19) ∧ n ≤ s.size ∧ TurnInv w0 W' v (sent ++ s.extract 0 n) got (k + 1)) := by
  obtain ⟨S, q, h1, h2, h3⟩ := h
  have c := WriteFD_any h1 (by omega) s hs
  rw [whoB1_eq] at c
  refine c.mono ?_
  rintro e W' ⟨n, er, q', S', rfl, her, hn, rfl, hp⟩
  refine ⟨n, er, rfl, her, hn, S', _, hp, by rw [h2, ByteArray.append_assoc], ?_⟩
  rw [ByteArray.size_append, ByteArray.size_extract]
  omega
theorem ext_app (q : ByteArray) (n : Nat) (h : n ≤ q.size) : q.extract 0 n ++ q.extract n q.size = q := by
  rw [ByteArray.extract_append_extract, Nat.min_eq_left (Nat.zero_le _), Nat.max_eq_right h, ByteArray.extract_zero_size]
theorem ext_nil (q : ByteArray) (n : Nat) : q.extract n n = ByteArray.empty := by
  apply ByteArray.ext
  apply Array.ext
  · show (q.extract n n).size = _
    rw [ByteArray.size_extract]
    show min n q.size - n = 0
    omega
  · intro i h1 h2
    exact absurd h2 (Nat.not_lt_zero _)
/-- A turn of the reader. -/
theorem TurnInv.read {w0 W : World} {v k : Nat} {sent got : ByteArray} (h : TurnInv w0 W v sent got k) (hk : k ≤ 60) (most : Nat) (hm : most ≤ 255) :
    Calls Tryz.prog 11 #[.pointer (some ⟨v, 0, none⟩), .string whoB2, .int .i64 0, .int .i64 (most : Int)] W (fun e W' => ∃ (s : ByteArray) (er : Int),
      e = .returned (.tuple #[.string s, .int .i64 er]) ∧ (er = 0 ∨ er = 19) ∧ s.size ≤ most ∧ TurnInv w0 W' v sent (got ++ s) (k + 1)) := by
  obtain ⟨S, q, h1, h2, h3⟩ := h
  have c := ReadFD_any (wr := 1) h1 (.inr rfl) (by omega) most (by omega)
  refine c.mono ?_
  rintro e W' ⟨n, er, S', rfl, her, hn, hq, _, hp⟩
  refine ⟨_, er, rfl, her, by rw [ByteArray.size_extract]; omega, S', _, hp, ?_, by omega⟩
  rw [ByteArray.append_assoc, ext_app q n hq, h2]
/-- What holds after the writer's end. -/
def EndInv (w0 W : World) (v : Nat) (sent got : ByteArray) (j : Nat) : Prop := ∃ S q, PW w0 W v S (dcl :: lv16) 0 q (200 + j) ∧ sent = got ++ q ∧ sent.size ≤ 20000 ∧ (1 ≤ j → q = ByteArray.empty)
theorem TurnInv.close {w0 W : World} {v k : Nat} {sent got : ByteArray} (h : TurnInv w0 W v sent got k) (hk : k ≤ 60) :
    Calls Tryz.prog 8 #[.pointer (some ⟨v, 0, none⟩), .string ⟨#[49]⟩, .int .i64 1] W (fun e W' => e = .returned (.int .i64 0) ∧ EndInv w0 W' v sent got 0) := by
  obtain ⟨S, q, h1, h2, h3⟩ := h
  have c := CloseFD_any h1 (by omega)
  rw [whoB1_eq] at c
  refine c.mono ?_
  rintro e W' ⟨S', rfl, hp⟩
  refine ⟨rfl, S', q, ⟨hp.fr, hp.usa, hp.pos, hp.new, hp.own, hp.le, ?_⟩, h2, by omega, fun h => absurd h (by decide)⟩
  obtain ⟨Lb, s, x1, x2, x3, x4, x5, x6⟩ := hp.view
  exact ⟨Lb, s, x1, x2, x3, x4, by omega, x6⟩
/-- A read after the writer's end: all that is left, at once. -/
theorem EndInv.read {w0 W : World} {v j : Nat} {sent got : ByteArray} (h : EndInv w0 W v sent got j) (hj : j ≤ 10) :
    Calls Tryz.prog 11 #[.pointer (some ⟨v, 0, none⟩), .string whoB2, .int .i64 0, .int .i64 4096] W (fun e W' => ∃ (s : ByteArray),
      e = .returned (.tuple #[.string s, .int .i64 0]) ∧ sent = got ++ s ∧ sent.size ≤ 20000 ∧ (1 ≤ j → s = ByteArray.empty) ∧ EndInv w0 W' v sent (got ++ s) (j + 1)) := by
  obtain ⟨S, q, h1, h2, h3, h4⟩ := h
  have hq := h1.le
  have c := ReadFD_any (wr := 0) h1 (.inl rfl) (by omega) 4096 (by omega)
  refine c.mono ?_
  rintro e W' ⟨n, er, S', rfl, her, hn, hqn, h0, hp⟩
  obtain ⟨rfl, h0⟩ := h0 rfl
  obtain rfl : n = q.size := by omega
  have e1 : q.extract 0 q.size = q := ByteArray.extract_zero_size
  have e2 : q.extract q.size q.size = ByteArray.empty := ext_nil q q.size
  rw [e1]
  rw [e2] at hp
  exact ⟨q, rfl, h2, h3, h4, S', _, hp, by rw [ByteArray.append_empty]; exact h2, h3, fun _ => rfl⟩
theorem EndInv.sizes {w0 W : World} {v j : Nat} {sent got : ByteArray} (h : EndInv w0 W v sent got j) : sent.size ≤ 20000 ∧ got.size ≤ 20000 := by
  obtain ⟨S, q, _, h2, h3, _⟩ := h
  have := congrArg ByteArray.size h2
  rw [ByteArray.size_append] at this
  omega
theorem EndInv.fr {w0 W : World} {v j : Nat} {sent got : ByteArray} (h : EndInv w0 W v sent got j) : Fr Nothing w0 W := by obtain ⟨S, q, h, _⟩ := h; exact h.fr
theorem Close11 {w0 W : World} {v : Nat} {S : Nat → Prop} (h : MSt w0 W v S lv15) :
    Calls Tryz.prog 8 #[.pointer (some ⟨v, 0, none⟩), .string whoB2, .int .i64 1] W (fun e W' => e = .returned (.int .i64 0) ∧ TurnInv w0 W' v ByteArray.empty ByteArray.empty 0) := by
  refine (Close1_st h).mono ?_
  rintro e W' ⟨S', rfl, hp⟩
  exact ⟨rfl, S', _, hp, by rw [ByteArray.append_empty], Nat.zero_le _⟩
theorem MSt.fr0 {w0 W W' : World} {v : Nat} {S : Nat → Prop} {l : List ECall} (h : MSt w0 W v S l) (hf : Fr Nothing W W') : MSt w0 W' v S l :=
  ⟨h.fr.trans hf, h.usa.fr0 hf, h.pos, fun b hb => ⟨(h.new b hb).1, Nat.lt_of_lt_of_le (h.new b hb).2 hf.size⟩, h.own, ix_st rho0 _ S W W' v h.ix (fun k hk => hf.block k (h.new k hk).2 (fun x => x)) hf.size⟩
theorem Rd.u8 {W : World} {S : Nat → Prop} {A : Option Addr} {n k : Nat} {l : List UInt8} (h : Rd W S 1 A n (l.map bv)) (hk : k < n) : ∃ (a : Addr) (x : Nat), A = some a ∧ x ≤ 255 ∧ W.cell? (a.add k) = some (.int .u8 (x : Int)) := by
  obtain ⟨a, u, h1, _, h2, h3⟩ := h.at_ hk
  rw [List.getElem?_map] at h2
  cases hx : l[k]? with
  | none => rw [hx] at h2; cases h2
  | some x =>
    rw [hx] at h2
    injection h2 with h2
    subst h2
    exact ⟨a, x.toNat, h1, by have := x.toNat_lt; omega, h3⟩
end Ev
end Go.Proofs.YtmpokappjogehaaGreatDoor
