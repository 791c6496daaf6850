/- Steps of the proof of LawPipesLoseNothing: contracts of the functions that the law reaches, for every world that holds what each of them asks. -/
import Derived.Test.YtmpokappjogehaaGreatDoorQBF
import Derived.Test.YtmpokappjogehaaGreatDoorQBA
import Derived.Test.YtmpokappjogehaaGreatDoorQAY
import Derived.Test.YtmpokappjogehaaGreatDoorQBD
import Derived.Test.YtmpokappjogehaaGreatDoorQBE
import Derived.Test.YtmpokappjogehaaGreatDoorQAQ
set_option linter.unusedVariables false
set_option linter.unusedSimpArgs false
namespace Go.Proofs.YtmpokappjogehaaGreatDoor
namespace Ev
open Go Go.RowKit
theorem kWrite2_ok {ρ : Nat → Value} {R : Caller XO} (hrun : CallOk (TX ρ) Tryz.prog ρ R) : CallOk (TX ρ) Tryz.prog ρ (kWrite2 R) := by
  intro f args m v m' h
  unfold kWrite2 at h
  replace h := bif_some h
  rcases h with ⟨hf, h⟩ | ⟨_, h⟩
  · obtain rfl := Nat.eq_of_beq_eq_true hf
    split at h
    · rename_i id o k s
      replace h := bif_some h
      rcases h with ⟨hb, h⟩ | ⟨_, h⟩
      · simp only [Bool.and_eq_true] at hb
        obtain ⟨⟨b1, b2⟩, b3⟩ := hb
        split at h
        · rename_i n m1 hfile
          split at h
          · rename_i z bs l hn hg
            replace h := bif_some h
            rcases h with ⟨hc, h⟩ | ⟨_, h⟩
            · simp only [Bool.and_eq_true, Nat.ble_eq] at hc
              obtain ⟨⟨c1, c2⟩, c3⟩ := hc
              split at h
              · rename_i m6 hres
                injection h with h
                injection h with h1 h2
                subst h1 h2
                have hz : z < ((s.len : Nat) : Int) := by
                  rw [ltF_eq] at c1
                  exact of_decide_eq_true c1
                exact k_write hrun (by simpa using b1) (by simpa using b2) b3 hfile hn hg hz c2 c3 hres
              · cases h
            · cases h
          · cases h
        · cases h
      · cases h
    · cases h
  · cases h
theorem kSt_ok (ρ : Nat → Value) : CallOk (TX ρ) Tryz.prog ρ kSt := callOk_or (kAll_ok ρ) (kWrite2_ok (runE_ok (kAll_ok ρ)))
end Ev
end Go.Proofs.YtmpokappjogehaaGreatDoor

namespace Go.Proofs.YtmpokappjogehaaGreatDoor
namespace Ev
open Go Go.RowKit

theorem viewRun_np {K : Caller XO} {f : Nat} {args : List EV} {bs bs' : VBs} {l l' : List ECall} {r : EV} (h : viewRun K f args bs l = some (r, bs', l')) : noPtr r = true ∧ noPtrs args = true := by
  unfold viewRun at h
  split at h
  · split at h
    · replace h := bif_some h
      rcases h with ⟨hp, h⟩ | ⟨_, h⟩
      · injection h with h
        injection h with e1 h
        subst e1
        simpa only [Bool.and_eq_true] using hp
      · cases h
    · cases h
  · cases h
/-- What a call on a view leaves. -/
structure Turned (ρ : Nat → Value) (v : Nat) (S : Nat → Prop) (W : World) (r : EV) (bs : VBs) (l : List ECall) (S' : Nat → Prop) (e : Ending) (W' : World) : Prop where
  ret : ∃ u, e = .returned u ∧ r.conc (fun _ => none) ρ = some u
  fr : Fr S W W'
  usa : UsaT W'
  old : ∀ b, S' b → S b ∨ W.heap.size ≤ b
  lt : ∀ b, S' b → b < W'.heap.size
  own : S' v
  ix : IX ρ (.view bs l) S' W' v
open Classical in
theorem turn_ok {ρ : Nat → Value} {K : Caller XO} (hK : CallOk (TX ρ) Tryz.prog ρ K) {f : Nat} {args : List EV} {bs bs' : VBs} {l l' : List ECall} {r : EV} (h : viewRun K f args bs l = some (r, bs', l'))
    {v : Nat} {S : Nat → Prop} {W : World} (hU : UsaT W) (h0 : 0 < W.heap.size) (hS : ∀ b, S b → 0 < b ∧ b < W.heap.size) (hv : S v) (hI : IX ρ (.view bs l) S W v)
    {us : List Value} (hu : EV.concs (fun _ => none) ρ args = some us) :
    Calls Tryz.prog f (.pointer (some ⟨v, 0, none⟩) :: us).toArray W (fun e W' => ∃ S', Turned ρ v S W r bs' l' S' e W') := by
  obtain ⟨hr, ha⟩ := viewRun_np h
  have iS : ∀ k, (if S k then some 0 else none : Option Nat) = some 0 ↔ S k := fun k => by
    by_cases h : S k
    · simp [h]
    · simp [h]
  have nS : ∀ k, (if S k then some 0 else none : Option Nat) = none → ¬ S k := fun k e h => by rw [if_pos h] at e; cases e
  have hH : HRel (TX ρ) ρ (fun j => if j = 0 then some (v, 0) else none) (fun k => if S k then some 0 else none) (mem0 bs l) W := by
    refine ⟨fun i hi => if_neg (by have : 1 ≤ i := hi; omega), fun k r hk => ?_, fun k hk => ?_, hU, fun i o hi => ?_⟩
    · split at hk
      · rename_i ho
        injection hk with hk
        subst hk
        exact ⟨(hS k ho).2, Nat.lt_succ_self _⟩
      · cases hk
    · have hk' : k = 0 := hk
      subst hk'
      exact ⟨h0, if_neg (fun h => absurd (hS 0 h).1 (Nat.lt_irrefl 0))⟩
    · have hi2 : (Tr.put Tr.nil 0 (LObj.ext (XO.view bs l))).get i = some o := hi
      rcases Tr.get_put hi2 with ⟨rfl, rfl⟩ | ⟨_, hi'⟩
      · exact ⟨v, 0, rfl, if_pos hv, ix_mono ρ (.view bs l) hI (fun k hk => (iS k).2 hk)⟩
      · cases hi'
  have hg : (mem0 bs l).h.get 0 = some (.ext (.view bs l)) := rfl
  have hc : EV.concs (fun j => if j = 0 then some (v, 0) else none) ρ (.ptr 0 0 :: args) = some (.pointer (some ⟨v, 0, none⟩) :: us) := by
    rw [noPtrs_conc (fun _ => none) (fun j => if j = 0 then some (v, 0) else none) ρ args ha] at hu
    simp only [EV.concs, EV.conc, hu, if_true]
  refine ((viewRun_ok hK h hg).2 _ _ W _ hc hH).mono ?_
  rintro e W' ⟨u, σ', own', rfl, hr', hH', hst⟩
  obtain ⟨b', c', q1, q2, q3⟩ := hH'.obj 0 _ (by exact rfl)
  have q4 := hst.ext 0 (Nat.lt_succ_self _)
  rw [q1] at q4
  simp only [if_true, Option.some.injEq, Prod.mk.injEq] at q4
  obtain ⟨rfl, rfl⟩ := q4
  refine ⟨fun k => own' k = some 0, ⟨⟨u, rfl, ?_⟩, hst.fr.mono fun k _ ⟨r, hr⟩ => ?_, hH'.g, fun b hb => ?_, fun b hb => (hH'.ow b 0 hb).1, q2, q3⟩⟩
  · rw [noPtr_conc (fun _ => none) σ' ρ _ hr]; exact hr'
  · split at hr
    · assumption
    · cases hr
  · rcases Nat.lt_or_ge b W.heap.size with hlt | hge
    · refine .inl (Classical.byContradiction fun hn => ?_)
      have := hst.old b hlt (if_neg hn)
      rw [this] at hb
      cases hb
    · exact .inr hge
end Ev
end Go.Proofs.YtmpokappjogehaaGreatDoor

namespace Go.Proofs.YtmpokappjogehaaGreatDoor
namespace Ev
open Go Go.RowKit

def pn : EName := ⟨.ofNat 11, ⟨1, 49⟩, .ofNat 0, .ofNat 0, ⟨0, 0⟩⟩
def busyE : EV := .int .i64 (.ofNat 19)
def birthE : List EV → Bool
  | [.str s, .int .i64 (.ofNat 0)] => sameS s ⟨1, 49⟩
  | _ => false
/-- The pipe's value is the symbol 1. -/
def pipeSym (bs : VBs) (l : List ECall) : Bool := match findE pn bs l with
  | some ⟨_, .sstr i _ _, false⟩ => Nat.beq i 1
  | _ => false
def newP : ECall := ⟨pn, .sstr 4 0 65536, false⟩
def resP (c : Nat) (v : EV) (zero : EV) (id : Nat) (bs : VBs) (l : List ECall) (m : Mem XO) : EV × Mem XO := match c with
  | 0 => (.tup [zero, okE], m.upd id (.ext (.view bs l)))
  | 1 => (.tup [zero, busyE], m.upd id (.ext (.view bs l)))
  | _ => (.tup [v, okE], m.upd id (.ext (.view bs (newP :: l))))
/-- pipe.Write: 0: nothing to write; 1: no room; 2: done. -/
def kPW (c : Nat) (f : Nat) (args : List EV) (m : Mem XO) : Option (EV × Mem XO) := bif Nat.beq f 43 then (match args with
  | [.ptr id 0, .agg b, .int .i64 (.ofNat 0), .sstr i _ _] => match m.h.get id with
    | some (.ext (.view bs l)) => bif birthE b && Nat.beq i 2 && pipeSym bs l && Nat.ble l.length 1000 then
        some (resP c (.sint .i64 3 (.ofNat 0) (.ofNat 256)) (.int .i64 (.ofNat 0)) id bs l m) else none
    | _ => none
  | _ => none) else none
/-- pipe.Read: 0: nothing is asked for, or at the end; 1: nothing is there; 2: done. -/
def kPR (c : Nat) (f : Nat) (args : List EV) (m : Mem XO) : Option (EV × Mem XO) := bif Nat.beq f 52 then (match args with
  | [.ptr id 0, .agg b, .int .i64 (.ofNat 0), .sint .i64 i _ _] => match m.h.get id with
    | some (.ext (.view bs l)) => bif birthE b && Nat.beq i 2 && pipeSym bs l && Nat.ble l.length 1000 then
        some (resP c (.sstr 3 0 256) (.str ⟨0, 0⟩) id bs l m) else none
    | _ => none
  | _ => none) else none
/-- pipe.Leave of the writer. -/
def kPL (f : Nat) (args : List EV) (m : Mem XO) : Option (EV × Mem XO) := bif Nat.beq f 111 then (match args with
  | [.ptr id 0, .agg b, .int .i64 (.ofNat 0), .bool true] => match m.h.get id with
    | some (.ext (.view bs l)) => bif birthE b && pipeSym bs l && Nat.ble l.length 1000 then
        some (okE, m.upd id (.ext (.view bs (newP :: l)))) else none
    | _ => none
  | _ => none) else none
/-- A view's Rollback to where it is. -/
def kRb (f : Nat) (args : List EV) (m : Mem XO) : Option (EV × Mem XO) := bif Nat.beq f 143 then (match args with
  | [.ptr id 0, .sint .i64 s _ _] => match m.h.get id with
    | some (.ext (.view (some (s', l0)) [])) => bif Nat.beq s s' then some (okE, m.upd id (.ext (.view (some (s', l0)) []))) else none
    | _ => none
  | _ => none) else none
noncomputable def kW (c : Nat) : Caller XO := orK kAll (orK kRb (kPW c))
noncomputable def kR (c : Nat) : Caller XO := orK kAll (orK kRb (kPR c))
noncomputable def kL : Caller XO := orK kAll kPL
def oldP : ECall := ⟨pn, .sstr 1 0 65536, false⟩
def lt1 : List ECall := oldP :: lv16
abbrev vb (l : List ECall) : VBs := some (0, l)
def who1 : EV := .str ⟨1, 49⟩
def who2 : EV := .str ⟨3, 3223089⟩
end Ev
end Go.Proofs.YtmpokappjogehaaGreatDoor

namespace Go.Proofs.YtmpokappjogehaaGreatDoor
open Go.RowKit

set_option maxRecDepth 100000 in
theorem side_any (g : Nat) (w : World) : Calls Tryz.prog 207 #[.pointer (some ⟨g, 0, none⟩), .bool true] w (SameW w (.pointer (some ⟨g, 2, none⟩))) := by
  go_enter Tryz.func207, Tryz.ntmps207
  go_wp2
  go_ret
  exact ⟨rfl, rfl⟩
set_option maxRecDepth 100000 in
set_option maxHeartbeats 2000000 in
theorem Leave1_any (ep rd k : Nat) (q : ByteArray) (g gw : Nat) (W : World) (hB : Blk W g 148 (PipeV.cells ⟨ep, rd, k + 1, q⟩).toArray) (hW : Blk W gw 4 #[.bool true]) (hk : k < 1000) :
    Calls Tryz.prog 211 #[.pointer (some ⟨g, 0, none⟩), .pointer (some ⟨gw, 0, none⟩)] W (fun e W' => e = .returned (.int .i64 0) ∧ Blk W' g 148 (PipeV.cells ⟨ep, rd, k, q⟩).toArray ∧ Fr (fun j => j = g) W W') := by
  have c0 : W.cell? ⟨gw, 0, none⟩ = some (.bool true) := hW.cell 0
  have c2 : W.cell? ⟨g, 2, none⟩ = some (.int .i64 ((k + 1 : Nat) : Int)) := hB.cell 2
  have HB := Lib.hid hB
  obtain ⟨k1, hk1⟩ : ∃ k1 : Nat, k1 = k + 1 := ⟨_, rfl⟩
  rw [← hk1] at c2
  have e1 : (k1 : Int) - 1 = (k : Int) := by omega
  have e2 : IntKind.i64.wrap (k : Int) = (k : Int) := IntWalk.i64_in _ (by omega)
  have t0 : ((k1 : Int) == 0) = false := by simp; omega
  clear hB hW hk1
  go_enter Tryz.func211, Tryz.ntmps211
  go_wp2_with fail
  refine (side_any g W).mono ?_
  rintro e w1 ⟨rfl, rfl⟩
  go_wp2_with (refine wpList_storeFld rfl 3 (.tmp 16) _ rfl g 2 (.int .i64 (k : Nat)) rfl rfl rfl (by kernel_rfl) _ _ (PipeV.cells ⟨ep, rd, k, q⟩).toArray HB.out (show 2 < 4 by decide) rfl ?_)
  intro w2 b2 f2
  have B2 := Lib.hid b2
  have F2 := Lib.hid f2
  clear b2 f2
  go_wp2
  go_ret
  exact ⟨rfl, B2.out, F2.out⟩
theorem ViewC.novb {w w' : World} {v : Nat} {L : List CV} (h : ViewC w v L) (f : Fr Nothing w w') (hU : UsaT w) (h0 : ¬ VB w v 0) : ¬ VB w' v 0 := fun e => by
  rcases (h.step0 f).lies 0 e with q | q
  · exact h0 q
  · exact absurd hU.pos (Nat.not_lt.2 q)
theorem valL_of {L : List CV} {n : NameV} {x : ByteArray} (h : lastC L n = some ⟨n, x, false⟩) : valL L n = x ∧ hasL L n = true := by
  unfold valL hasL
  rw [h]
  exact ⟨rfl, rfl⟩
set_option maxRecDepth 100000 in
set_option maxHeartbeats 2000000 in
theorem PLeave_any (ep rd k : Nat) (q : ByteArray) (hp : okPipe ⟨ep, rd, k + 1, q⟩) (hp' : okPipe ⟨ep, rd, k, q⟩) (b : BirthV) (v : Nat) (L : List CV) (w : World) (h : ViewC w v L) (hU : UsaT w) (hU0 : ¬ VB w v 0) (hb : okBirth b = true) (hn : okNm (nBirth 11 b) = true) (hs : b.maker.size ≤ 1099511627776) (hL : L.length ≤ 1048576)
    (hv : lastC L (nBirth 11 b) = some ⟨nBirth 11 b, ⟨(encP ⟨ep, rd, k + 1, q⟩).toArray⟩, false⟩) :
    Calls Tryz.prog 111 #[.pointer (some ⟨v, 0, none⟩), .agg b.cells.toArray, .int .i64 (ep : Nat), .bool true] w (fun e w' => e = .returned (.int .i64 0) ∧ ViewC w' v (L ++ [⟨nBirth 11 b, ⟨(encP ⟨ep, rd, k, q⟩).toArray⟩, false⟩]) ∧ VStep v w w') := by
  obtain ⟨v1, v2⟩ := valL_of hv
  have hk : k < 1000 := by have h := hp.2.2.1; have h' : k + 1 ≤ 64 := h; omega
  have CC : Hid (∀ w gw, ViewC w v L → UsaT w → ¬ VB w v 0 → Blk w gw 4 #[.bool true] → Loc w v gw → Calls Tryz.prog 119 #[.pointer (some ⟨v, 0, none⟩), .agg b.cells.toArray, .int .i64 (ep : Nat), .func (.func 211) #[] #[.pointer (some ⟨gw, 0, none⟩)]] w (fun e w' => e = .returned (.int .i64 0) ∧ ViewC w' v (L ++ [⟨nBirth 11 b, ⟨(encP ⟨ep, rd, k, q⟩).toArray⟩, false⟩]) ∧ VStep v w w')) := by
    intro w gw h hU hU0 hB hl
    refine (PChange_any ⟨ep, rd, k + 1, q⟩ ⟨ep, rd, k, q⟩ hp b v L w h hU hU0 hb hn hs hL v1 v2 211 #[.pointer (some ⟨gw, 0, none⟩)] 0 (fun args w => by kernel_rfl) (fun _ => False) (fun _ h => h.elim) (fun h => h) (fun _ => True) (fun _ _ _ _ => trivial) ?_ (fun _ => hp')).mono ?_
    · intro W g hg hf hBg
      have hBw : Blk W gw 4 #[.bool true] := hB.fr hf (fun e => e.elim hl.far (fun e => absurd hl.lt (Nat.not_lt.2 e)))
      refine (Leave1_any ep rd k q g gw W hBg hBw hk).mono ?_
      rintro e W' ⟨rfl, h1, h2⟩
      exact ⟨rfl, h1, h2.mono fun _ _ h => .inl h, trivial⟩
    · rintro e w' ⟨h1, h2, h3, _⟩
      refine ⟨h1, ?_, (h3.weakT (fun k hk => hk.elim (fun x => x.elim) (fun x => x))).new⟩
      rw [if_pos ⟨rfl, fun e => by injection e with _ _ e _; omega⟩] at h2
      exact h2
  have HV := Lib.hid h
  have HU := Lib.hid hU
  have HU0 := Lib.hid hU0
  clear h hU hv v1 v2 hU0
  generalize L ++ [⟨nBirth 11 b, ⟨(encP ⟨ep, rd, k, q⟩).toArray⟩, false⟩] = L2 at *
  go_enter Tryz.func111, Tryz.ntmps111
  go_wp2_with (refine wpList_boxBlk rfl 48 (.tmp 1) rfl b.cells.toArray rfl ?_)
  intro w1 n1
  have F1 := Lib.hid n1.fr
  have B1 := Lib.hid n1.blk
  clear n1
  generalize w.heap.size = gb at *
  go_wp2_with (refine wpList_boxBlk rfl 4 (.tmp 3) rfl #[.bool true] rfl ?_)
  intro w2 n2
  have F2 := Lib.hid (F1.out.trans n2.fr)
  have B2 := Lib.hid (B1.out.fr n2.fr (fun x => x))
  have K2 := Lib.hid n2.blk
  have L2 : Hid (Loc w2 v w1.heap.size) := Loc.new HV.out F2.out F1.out.size n2.blk.lt
  clear n2 B1 F1
  generalize w1.heap.size = gw at *
  have U2 : Hid (¬ VB w2 v 0) := HV.out.novb F2.out HU.out HU0.out
  go_wp2_with (refine wpList_load_add rfl 48 (.tmp 5) rfl ⟨gb, 0, none⟩ rfl b.cells _ (blk_at B2.out 0 _ (fun j v h => by rw [Nat.zero_add, List.getElem?_toArray]; exact h)) Tryz.underlying48 rfl infoBirth (Held.go ?hk1))
  unfold Held
  go_wp2_with fail
  refine (CC.out w2 gw (HV.out.fr0 F2.out) (HU.out.fr0 F2.out) U2.out K2.out L2.out).mono ?_
  rintro e w3 ⟨rfl, V3, S3⟩
  have HV3 := Lib.hid V3
  have S3' := Lib.hid ((HV.out.step0 F2.out).trans S3)
  clear V3 S3
  go_wp2
  go_ret
  exact ⟨rfl, HV3.out, S3'.out⟩
end Go.Proofs.YtmpokappjogehaaGreatDoor

namespace Go.Proofs.YtmpokappjogehaaGreatDoor
open Go.RowKit

theorem Write1_none (g gs gn : Nat) (s : ByteArray) (W : World) (hS : Blk W gs 9 #[.string s]) (h0 : s.size = 0) :
    Calls Tryz.prog 120 #[.pointer (some ⟨g, 0, none⟩), .pointer (some ⟨gs, 0, none⟩), .pointer (some ⟨gn, 0, none⟩)] W (SameW W (.int .i64 0)) := by
  have c0 : W.cell? ⟨gs, 0, none⟩ = some (.string s) := hS.cell 0
  have t0 : s.toList.isEmpty = true := by rw [List.isEmpty_iff_length_eq_zero, toList_size, h0]
  clear hS h0
  go_enter Tryz.func120, Tryz.ntmps120
  go_wp2
  go_ret
  exact ⟨rfl, rfl⟩
set_option maxRecDepth 100000 in
set_option maxHeartbeats 2000000 in
theorem Write1_full (ep rd wr : Nat) (q s : ByteArray) (g gs gn : Nat) (W : World) (hB : Blk W g 148 (PipeV.cells ⟨ep, rd, wr, q⟩).toArray) (hS : Blk W gs 9 #[.string s]) (h0 : s.size ≠ 0) (hr : rd ≠ 0) (hq : q.size = 256) :
    Calls Tryz.prog 120 #[.pointer (some ⟨g, 0, none⟩), .pointer (some ⟨gs, 0, none⟩), .pointer (some ⟨gn, 0, none⟩)] W (SameW W (.int .i64 19)) := by
  have c0 : W.cell? ⟨gs, 0, none⟩ = some (.string s) := hS.cell 0
  have c1 : W.cell? ⟨g, 1, none⟩ = some (.int .i64 (rd : Nat)) := hB.cell 1
  have c3 : W.cell? ⟨g, 3, none⟩ = some (.string q) := hB.cell 3
  have t0 : s.toList.isEmpty = false := by rw [← Bool.not_eq_true, List.isEmpty_iff_length_eq_zero, toList_size]; exact h0
  have t1 : ((rd : Int) == 0) = false := by simpa using hr
  have t2 : ((q.size : Int) == 256) = true := by rw [hq]; rfl
  clear hS h0 hB hr hq
  go_enter Tryz.func120, Tryz.ntmps120
  go_wp2
  go_ret
  exact ⟨rfl, rfl⟩
set_option maxRecDepth 100000 in
set_option maxHeartbeats 2000000 in
theorem Write1_some (ep rd wr : Nat) (q s : ByteArray) (g gs gn n : Nat) (W : World) (hB : Blk W g 148 (PipeV.cells ⟨ep, rd, wr, q⟩).toArray) (hS : Blk W gs 9 #[.string s]) (hN : Blk W gn 3 #[.int .i64 0]) (hgn : g ≠ gn ∧ gs ≠ gn) (h0 : s.size ≠ 0) (hr : rd ≠ 0) (hq : q.size < 256) (hs : s.size ≤ 100000) (hn : n = min s.size (256 - q.size)) :
    Calls Tryz.prog 120 #[.pointer (some ⟨g, 0, none⟩), .pointer (some ⟨gs, 0, none⟩), .pointer (some ⟨gn, 0, none⟩)] W (fun e W' => e = .returned (.int .i64 0) ∧ Blk W' g 148 (PipeV.cells ⟨ep, rd, wr, q ++ s.extract 0 n⟩).toArray ∧ Blk W' gn 3 #[.int .i64 (n : Nat)] ∧ Fr (fun k => k = g ∨ k = gn) W W') := by
  have c0 : W.cell? ⟨gs, 0, none⟩ = some (.string s) := hS.cell 0
  have c1 : W.cell? ⟨g, 1, none⟩ = some (.int .i64 (rd : Nat)) := hB.cell 1
  have c3 : W.cell? ⟨g, 3, none⟩ = some (.string q) := hB.cell 3
  have t0 : s.toList.isEmpty = false := by rw [← Bool.not_eq_true, List.isEmpty_iff_length_eq_zero, toList_size]; exact h0
  have t1 : ((rd : Int) == 0) = false := by simpa using hr
  have t2 : ((q.size : Int) == 256) = false := by simp; omega
  obtain ⟨d, hd⟩ : ∃ d : Nat, d = 256 - q.size := ⟨_, rfl⟩
  have e1 : (256 : Int) - (q.size : Int) = (d : Int) := by omega
  have e2 : IntKind.i64.wrap (d : Int) = (d : Int) := IntWalk.i64_in _ (by omega)
  have e3 : min (s.size : Int) (d : Int) = (n : Int) := by omega
  have n1 : n ≤ s.size := by omega
  have n2 : (n : Int) ≤ (s.size : Int) := by omega
  have n3 : (0 : Int) ≤ (n : Int) := by omega
  have HB := Lib.hid hB
  have HS := Lib.hid hS
  have HN := Lib.hid hN
  have HG := Lib.hid hgn
  clear hS h0 hB hr hq hN hgn hd hn
  go_enter Tryz.func120, Tryz.ntmps120
  go_upto_region 7 with fail
  refine wp_mid 9 (by kernel_rfl) (by kernel_rfl) ?_
  intro w2 f2
  have B2 := Lib.hid (HB.out.fr f2 (fun x => x))
  have S2 := Lib.hid (HS.out.fr f2 (fun x => x))
  have N2 := Lib.hid (HN.out.fr f2 (fun x => x))
  have F2 := Lib.hid f2
  clear f2 HB HS HN c0 c1 c3
  have c0 : w2.cell? ⟨gs, 0, none⟩ = some (.string s) := S2.out.cell 0
  have c3 : w2.cell? ⟨g, 3, none⟩ = some (.string q) := B2.out.cell 3
  simp only [List.take_succ_cons, List.take_zero, List.drop_succ_cons, List.drop_zero]
  repeat still_step
  refine wpStill_nil ?_
  refine wpList_storeFld rfl 3 (.tmp 2) _ rfl gn 0 (.int .i64 (n : Nat)) rfl rfl rfl (by kernel_rfl) _ _ #[.int .i64 (n : Nat)] N2.out (show 0 < 1 by decide) rfl ?_
  intro w3 b3 f3
  have N3 := Lib.hid b3
  have B3 := Lib.hid (B2.out.fr f3 HG.out.1)
  have S3 := Lib.hid (S2.out.fr f3 HG.out.2)
  have F3 : Hid (Fr (fun k => k = g ∨ k = gn) W w3) := (F2.out.weak).trans (f3.mono fun _ _ h => .inr h)
  clear b3 f3 N2 B2 S2 F2 c0 c3
  go_wp2_with fail
  refine wpStill_nil ?_
  go_upto_region 8 with fail
  refine wp_mid 10 (by kernel_rfl) (by kernel_rfl) ?_
  intro w4 f4
  have B4 := Lib.hid (B3.out.fr f4 (fun x => x))
  have N4 := Lib.hid (N3.out.fr f4 (fun x => x))
  have F4 : Hid (Fr (fun k => k = g ∨ k = gn) W w4) := F3.out.trans f4.weak
  have c0 : w4.cell? ⟨gs, 0, none⟩ = some (.string s) := (S3.out.fr f4 (fun x => x)).cell 0
  have c3 : w4.cell? ⟨g, 3, none⟩ = some (.string q) := B4.out.cell 3
  have c4 : w4.cell? ⟨gn, 0, none⟩ = some (.int .i64 (n : Nat)) := N4.out.cell 0
  clear f4 B3 N3 F3 S3
  simp only [List.take_succ_cons, List.take_zero, List.drop_succ_cons, List.drop_zero]
  obtain ⟨x, hx⟩ : ∃ x, x = s.extract 0 n := ⟨_, rfl⟩
  have hxs : x.size = n := by rw [hx, ByteArray.size_extract]; omega
  have hadd : (Op.stringOp .add q (s.extract 0 n)).run Tryz.prog w4 = .ok (.string (q ++ s.extract 0 n)) w4 := Go.run_string_add_sum _ _ _ (by rw [← hx, hxs]; omega)
  clear hx hxs
  repeat still_step
  refine wpStill_nil ?_
  refine wpList_storeFld rfl 9 (.tmp 36) _ rfl g 3 (.string (q ++ s.extract 0 n)) rfl rfl rfl (by kernel_rfl) _ _ (PipeV.cells ⟨ep, rd, wr, q ++ s.extract 0 n⟩).toArray B4.out (show 3 < 4 by decide) rfl ?_
  intro w5 b5 f5
  have B5 := Lib.hid b5
  have N5 := Lib.hid (N4.out.fr f5 (fun e => HG.out.1 e.symm))
  have F5 : Hid (Fr (fun k => k = g ∨ k = gn) W w5) := F4.out.trans (f5.mono fun _ _ h => .inl h)
  clear b5 f5 B4 N4 F4 hadd c0 c3 c4
  go_wp2_with fail
  refine wpStill_nil ?_
  go_wp2
  go_ret
  exact ⟨rfl, B5.out, N5.out, F5.out⟩
end Go.Proofs.YtmpokappjogehaaGreatDoor

namespace Go.Proofs.YtmpokappjogehaaGreatDoor
open Go.RowKit

theorem Blk.loc {w W : World} {v g : Nat} {t : TypeId} {cs : Array Value} (h : Blk w g t cs) (l : Loc w v g) (f : Fr (fun k => VB w v k ∨ w.heap.size ≤ k) w W) : Blk W g t cs := h.fr f (fun e => e.elim l.far (fun e => absurd l.lt (Nat.not_lt.2 e)))
theorem VSt.own {T : Nat → Prop} {v : Nat} {w w1 w' : World} {L : List CV} (h : ViewC w v L) (f : Fr Nothing w w1) (s : VSt (fun k => T k ∨ w1.heap.size ≤ k) v w1 w') (hT : ∀ k, T k → w.heap.size ≤ k) : VStep v w w' :=
  ((h.step0 f).st.trans (s.weakT fun k hk => hk.elim (hT k) (fun q => Nat.le_trans f.size q))).new
/-- An answer, and the view's calls behind it. -/
def Ans3 (r : Value) (v : Nat) (L : List CV) (w : World) (e : Ending) (w' : World) : Prop := e = .returned r ∧ ViewC w' v L ∧ VStep v w w'
theorem zvInt (w : World) : (zeroValue 3).run Tryz.prog w = .ok (.int .i64 0) w := by kernel_rfl
set_option maxRecDepth 100000 in
set_option maxHeartbeats 2000000 in
theorem PWriteG (p p' : PipeV) (s : ByteArray) (n : Nat) (code : Int) (hp : okPipe p) (b : BirthV) (v : Nat) (L : List CV) (w : World) (h : ViewC w v L) (hU : UsaT w) (hU0 : ¬ VB w v 0) (hb : okBirth b = true) (hn : okNm (nBirth 11 b) = true) (hs : b.maker.size ≤ 1099511627776) (hL : L.length ≤ 1048576)
    (hv : lastC L (nBirth 11 b) = some ⟨nBirth 11 b, ⟨(encP p).toArray⟩, false⟩)
    (hop : ∀ W g gs gn, Blk W g 148 p.cells.toArray → Blk W gs 9 #[.string s] → Blk W gn 3 #[.int .i64 0] → g ≠ gn ∧ gs ≠ gn →
      Calls Tryz.prog 120 #[.pointer (some ⟨g, 0, none⟩), .pointer (some ⟨gs, 0, none⟩), .pointer (some ⟨gn, 0, none⟩)] W (fun e W' => e = .returned (.int .i64 code) ∧ Blk W' g 148 p'.cells.toArray ∧ Blk W' gn 3 #[.int .i64 (n : Nat)] ∧ Fr (fun k => k = g ∨ k = gn) W W'))
    (hok : code = 0 → okPipe p') :
    Calls Tryz.prog 43 #[.pointer (some ⟨v, 0, none⟩), .agg b.cells.toArray, .int .i64 (p.epoch : Nat), .string s] w (Ans3 (.tuple #[.int .i64 (if code = 0 then (n : Int) else 0), .int .i64 code]) v (if code = 0 ∧ p ≠ p' then L ++ [⟨nBirth 11 b, ⟨(encP p').toArray⟩, false⟩] else L) w) := by
  obtain ⟨v1, v2⟩ := valL_of hv
  have CC : Hid (∀ w gs gn, ViewC w v L → UsaT w → ¬ VB w v 0 → Blk w gs 9 #[.string s] → Blk w gn 3 #[.int .i64 0] → Loc w v gs → Loc w v gn → gs ≠ gn → 0 < gn → Calls Tryz.prog 119 #[.pointer (some ⟨v, 0, none⟩), .agg b.cells.toArray, .int .i64 (p.epoch : Nat), .func (.func 120) #[] #[.pointer (some ⟨gs, 0, none⟩), .pointer (some ⟨gn, 0, none⟩)]] w
      (PChanged (fun k => k = gn) (fun W => Blk W gn 3 #[.int .i64 (n : Nat)]) p p' b code v L w)) := by
    intro w gs gn h hU hU0 hBs hBn hls hln hne hg0
    refine PChange_any p p' hp b v L w h hU hU0 hb hn hs hL v1 v2 120 #[.pointer (some ⟨gs, 0, none⟩), .pointer (some ⟨gn, 0, none⟩)] code (fun args w => by kernel_rfl) (fun k => k = gn) (fun k e => by have e' : k = gn := e; rw [e']; exact hln) (fun e => by have e' : 0 = gn := e; omega)
      (fun W => Blk W gn 3 #[.int .i64 (n : Nat)]) (fun A B hA hf => hA.fr hf (fun e => e.elim hln.far (fun e => absurd hln.lt (Nat.not_lt.2 e)))) ?_ hok
    intro W g hg hf hBg
    refine (hop W g gs gn hBg (hBs.loc hls hf) (hBn.loc hln hf) ⟨by have := hln.lt; omega, hne⟩).mono ?_
    rintro e W' ⟨rfl, h1, h2, h3⟩
    exact ⟨rfl, h1, h3, h2⟩
  have HV := Lib.hid h
  have HU := Lib.hid hU
  have HU0 := Lib.hid hU0
  clear h hU hv v1 v2 hU0 hop hok
  generalize hL2 : (if code = 0 ∧ p ≠ p' then L ++ [⟨nBirth 11 b, ⟨(encP p').toArray⟩, false⟩] else L) = L2 at *
  have HL2 := Lib.hid hL2
  clear hL2
  have FIN : Hid (∀ (e : Ending) (w' : World), e = .returned (.tuple #[.int .i64 (if code = 0 then (n : Int) else 0), .int .i64 code]) → ViewC w' v L2 → VStep v w w' → Ans3 (.tuple #[.int .i64 (if code = 0 then (n : Int) else 0), .int .i64 code]) v L2 w e w') := fun e w' h1 h2 h3 => ⟨h1, h2, h3⟩
  generalize Ans3 (.tuple #[.int .i64 (if code = 0 then (n : Int) else 0), .int .i64 code]) v L2 w = PP at *
  go_enter Tryz.func43, Tryz.ntmps43
  go_wp2_with (refine wpList_boxBlk rfl 48 (.tmp 1) rfl b.cells.toArray rfl ?_)
  intro w1 n1
  have F1 := Lib.hid n1.fr
  have B1 := Lib.hid n1.blk
  clear n1
  have SZ : Hid (w.heap.size ≤ w.heap.size) := Nat.le_refl _
  obtain ⟨gb, hgb⟩ : ∃ gb, gb = w.heap.size := ⟨_, rfl⟩
  rw [← hgb] at B1 ⊢
  clear hgb
  go_wp2_with (refine wpList_boxBlk rfl 9 (.tmp 3) rfl #[.string s] rfl ?_)
  intro w2 n2
  have F2 := Lib.hid (F1.out.trans n2.fr)
  have B2 := Lib.hid (B1.out.fr n2.fr (fun x => x))
  have S2 := Lib.hid n2.blk
  have G2 : Hid (w.heap.size ≤ w1.heap.size) := F1.out.size
  clear n2 B1 F1
  obtain ⟨gs, hgs⟩ : ∃ gs, gs = w1.heap.size := ⟨_, rfl⟩
  rw [← hgs] at S2 G2 ⊢
  clear hgs
  go_wp2_with (refine wpList_allocBlk rfl 3 rfl (.int .i64 0) zvInt #[.int .i64 0] rfl ?_)
  intro w3 n3
  have F3 := Lib.hid (F2.out.trans n3.fr)
  have B3 := Lib.hid (B2.out.fr n3.fr (fun x => x))
  have S3 := Lib.hid (S2.out.fr n3.fr (fun x => x))
  have N3 := Lib.hid n3.blk
  have G3 : Hid (w.heap.size ≤ w2.heap.size ∧ gs ≠ w2.heap.size ∧ gb ≠ w2.heap.size ∧ 0 < w2.heap.size) := ⟨F2.out.size, by have := S2.out.lt; omega, by have := B2.out.lt; omega, by have := S2.out.lt; omega⟩
  clear n3 B2 S2 F2
  obtain ⟨gn, hgn⟩ : ∃ gn, gn = w2.heap.size := ⟨_, rfl⟩
  rw [← hgn] at N3 G3 ⊢
  clear hgn
  go_wp2_with (refine wpList_storeFld rfl 3 (.tmp 10) _ rfl gn 0 (.int .i64 0) rfl rfl rfl (by kernel_rfl) _ _ #[.int .i64 0] N3.out (show 0 < 1 by decide) rfl ?_)
  intro w4 b4 f4
  have N4 := Lib.hid b4
  have F4 : Hid (Fr Nothing w w4) := F3.out.then_ f4 (fun i hi e => by have e' : i = gn := e; have := G3.out.1; omega)
  have B4 := Lib.hid (B3.out.fr f4 (fun e => G3.out.2.2.1 e))
  have S4 := Lib.hid (S3.out.fr f4 (fun e => G3.out.2.1 e))
  clear b4 f4 N3 F3 B3 S3
  have LS : Hid (Loc w4 v gs) := Loc.new HV.out F4.out G2.out S4.out.lt
  have LN : Hid (Loc w4 v gn) := Loc.new HV.out F4.out G3.out.1 N4.out.lt
  go_wp2_with (refine wpList_load_add rfl 48 (.tmp 5) rfl ⟨gb, 0, none⟩ rfl b.cells _ (blk_at B4.out 0 _ (fun j v h => by rw [Nat.zero_add, List.getElem?_toArray]; exact h)) Tryz.underlying48 rfl infoBirth (Held.go ?hk1))
  unfold Held
  go_wp2_with fail
  refine (CC.out w4 gs gn (HV.out.fr0 F4.out) (HU.out.fr0 F4.out) (HV.out.novb F4.out HU.out HU0.out) S4.out N4.out LS.out LN.out G3.out.2.1 G3.out.2.2.2).mono ?_
  rintro e w5 ⟨rfl, V5, T5, R5⟩
  have HV5 : Hid (ViewC w5 v L2) := by rw [← HL2.out]; exact V5
  have S5 : Hid (VStep v w w5) := VSt.own HV.out F4.out T5 (fun k e => by have e' : k = gn := e; rw [e']; exact G3.out.1)
  have c5 : w5.cell? ⟨gn, 0, none⟩ = some (.int .i64 (n : Nat)) := R5.cell 0
  clear V5 T5 R5 CC HL2 N4 F4 B4 S4 LS LN
  by_cases hc : code = 0
  · subst hc
    have HQ := Lib.hid (FIN.out _ w5 rfl HV5.out S5.out)
    clear FIN
    rw [if_pos rfl] at HQ
    go_wp2
    first | exact HQ.out | (go_ret2; exact HQ.out)
  · have t0 : (code != 0) = true := by simpa using hc
    have HQ := Lib.hid (FIN.out _ w5 rfl HV5.out S5.out)
    clear FIN
    rw [if_neg hc] at HQ
    clear hc
    go_wp2
    first | exact HQ.out | (go_ret2; exact HQ.out)
end Go.Proofs.YtmpokappjogehaaGreatDoor

namespace Go.Proofs.YtmpokappjogehaaGreatDoor
open Go.RowKit

theorem bif3 {a b c : Bool} (h : a = false ∨ b = false ∨ c = false) : (bif a then (bif b then Value.bool c else .bool false) else .bool false) = .bool false := by
  rcases h with h | h | h <;> subst h <;> first | rfl | (cases a <;> rfl) | (cases a <;> cases b <;> rfl)
theorem wp_storeFld {P : Program} {o : Oper} {a : Act} {w : World} {K : Act → World → Prop} {Q : Exit → Act → World → Prop} (ty : TypeId) (x y : Operand) (ho : o.op = .store ty x y)
    (g f : Nat) (v : Value) (hx : a.eval x = .pointer (some ⟨g, f, none⟩)) (hy : a.eval y = v) (h1 : v.oneCell' = true) (hi : (P.info? ty).map (·.size) = some 1)
    (t : TypeId) (cs cs' : Array Value) (hB : Blk w g t cs) (hf : f < cs.size) (hcs : cs.setIfInBounds f v = cs')
    (h : ∀ w', Blk w' g t cs' → Fr (fun k => k = g) w w' → K (a.put o.dst undef) w') : o.wp P a w K Q := by
  subst hcs
  obtain ⟨ie, hie, hs⟩ : ∃ ie, P.info? ty = some ie ∧ ie.size = 1 := by
    cases he : P.info? ty with
    | none => rw [he] at hi; cases hi
    | some ie => rw [he] at hi; exact ⟨ie, rfl, by simpa using hi⟩
  have hrun := Lib.rl_storeVar_one (P := P) ty ie hie hs ⟨g, f, none⟩ v (cs[f]) h1 w (by rw [hB.cell]; simp [hf]) (hB.frozen _)
  unfold Oper.wp execOp
  simp only [ho, hx, hy, Instr.storeAt, Instr.sureAddr, Sem.run_bind, Sem.run_pure, Result.andThen_ok, hrun]
  exact h _ (hB.set_ f v) (Fr.setCell (T := fun k => k = g) (Fr.refl _ w) (fun _ => rfl) v)
set_option maxRecDepth 100000 in
set_option maxHeartbeats 2000000 in
theorem Read1_busy (ep rd wr : Nat) (q : ByteArray) (most : Nat) (g gm gs : Nat) (W : World) (hB : Blk W g 148 (PipeV.cells ⟨ep, rd, wr, q⟩).toArray) (hM : Blk W gm 3 #[.int .i64 (most : Nat)]) (h0 : most ≠ 0) (hq : q.size = 0) (hw : wr ≠ 0) :
    Calls Tryz.prog 133 #[.pointer (some ⟨g, 0, none⟩), .pointer (some ⟨gm, 0, none⟩), .pointer (some ⟨gs, 0, none⟩)] W (SameW W (.int .i64 19)) := by
  have c0 : W.cell? ⟨gm, 0, none⟩ = some (.int .i64 (most : Nat)) := hM.cell 0
  have c2 : W.cell? ⟨g, 2, none⟩ = some (.int .i64 (wr : Nat)) := hB.cell 2
  have c3 : W.cell? ⟨g, 3, none⟩ = some (.string q) := hB.cell 3
  have t0 : decide ((most : Int) < 0) = false := decide_eq_false (by omega)
  have t0' : ¬ ((most : Int) < 0) := by omega
  have t1 : decide ((0 : Int) < (most : Int)) = true := decide_eq_true (by omega)
  have t1' : (0 : Int) < (most : Int) := by omega
  have t1'' : 0 < most := by omega
  have t2 : q.toList.isEmpty = true := by rw [List.isEmpty_iff_length_eq_zero, toList_size, hq]
  have t3 : decide ((0 : Int) < (wr : Int)) = true := decide_eq_true (by omega)
  have t3' : (0 : Int) < (wr : Int) := by omega
  have t3'' : 0 < wr := by omega
  clear hM h0 hB hq hw
  go_enter Tryz.func133, Tryz.ntmps133
  go_wp2
  go_ret
  exact ⟨rfl, rfl⟩
set_option maxRecDepth 100000 in
set_option maxHeartbeats 4000000 in
theorem Read1_some (ep rd wr : Nat) (q : ByteArray) (most n : Nat) (g gm gs : Nat) (W : World) (hB : Blk W g 148 (PipeV.cells ⟨ep, rd, wr, q⟩).toArray) (hM : Blk W gm 3 #[.int .i64 (most : Nat)]) (hS : Blk W gs 9 #[.string ByteArray.empty]) (hgs : g ≠ gs) (hb : most = 0 ∨ q.size ≠ 0 ∨ wr = 0) (hn : n = min most q.size) (hs : q.size ≤ 100000) :
    Calls Tryz.prog 133 #[.pointer (some ⟨g, 0, none⟩), .pointer (some ⟨gm, 0, none⟩), .pointer (some ⟨gs, 0, none⟩)] W (fun e W' => e = .returned (.int .i64 0) ∧ Blk W' g 148 (PipeV.cells ⟨ep, rd, wr, q.extract n q.size⟩).toArray ∧ Blk W' gs 9 #[.string (q.extract 0 n)] ∧ Fr (fun k => k = g ∨ k = gs) W W') := by
  have c0 : W.cell? ⟨gm, 0, none⟩ = some (.int .i64 (most : Nat)) := hM.cell 0
  have c2 : W.cell? ⟨g, 2, none⟩ = some (.int .i64 (wr : Nat)) := hB.cell 2
  have c3 : W.cell? ⟨g, 3, none⟩ = some (.string q) := hB.cell 3
  have t0 : decide ((most : Int) < 0) = false := decide_eq_false (by omega)
  have t0' : ¬ ((most : Int) < 0) := by omega
  have HB := Lib.hid hB
  have HS := Lib.hid hS
  have HM := Lib.hid hM
  have HG := Lib.hid hgs
  have e3 : min (most : Int) (q.size : Int) = (n : Int) := by omega
  have n1 : n ≤ q.size := by omega
  have n2 : (n : Int) ≤ (q.size : Int) := by omega
  have n3 : (0 : Int) ≤ (n : Int) := by omega
  obtain ⟨m1, hm1⟩ : ∃ m1 : Bool, m1 = decide (0 < most) := ⟨_, rfl⟩
  obtain ⟨m2, hm2⟩ : ∃ m2 : Bool, m2 = (q.size == 0) := ⟨_, rfl⟩
  obtain ⟨m3, hm3⟩ : ∃ m3 : Bool, m3 = decide (0 < wr) := ⟨_, rfl⟩
  have t1 : decide ((0 : Int) < (most : Int)) = m1 := by rw [hm1]; exact decide_eq_decide.2 (by omega)
  have t1b : decide (0 < most) = m1 := hm1.symm
  have t2 : q.toList.isEmpty = m2 := by
    rw [hm2, Bool.eq_iff_iff, List.isEmpty_iff_length_eq_zero, toList_size]
    simp
  have t3 : decide ((0 : Int) < (wr : Int)) = m3 := by rw [hm3]; exact decide_eq_decide.2 (by omega)
  have t3b : decide (0 < wr) = m3 := hm3.symm
  have hmm : m1 = false ∨ m2 = false ∨ m3 = false := by
    rcases hb with h | h | h
    · exact .inl (by rw [hm1, h]; rfl)
    · exact .inr (.inl (by rw [hm2]; simpa using h))
    · exact .inr (.inr (by rw [hm3, h]; rfl))
  clear hB hM hS hgs hb hn hm1 hm2 hm3
  go_enter Tryz.func133, Tryz.ntmps133
  have HZ := Lib.hid (bif3 hmm)
  clear hmm
  go_upto_region 3 with fail
  clear c0 c2 c3
  refine wq_is 16 [.int .i64 (most : Nat), .bool m1, .bool m1, bif m1 then .pointer (some ⟨g, 0, none⟩) else undef, bif m1 then .pointer (some ⟨g, 0, none⟩) else undef, bif m1 then .pointer (some ⟨g, 3, none⟩) else undef, bif m1 then .string q else undef, bif m1 then .bool m2 else undef, bif m1 then .bool m2 else .bool false, bif m1 then .bool m2 else .bool false, bif m1 then (bif m2 then .pointer (some ⟨g, 0, none⟩) else undef) else undef, bif m1 then (bif m2 then .pointer (some ⟨g, 0, none⟩) else undef) else undef, bif m1 then (bif m2 then .pointer (some ⟨g, 2, none⟩) else undef) else undef, bif m1 then (bif m2 then .int .i64 (wr : Nat) else undef) else undef, bif m1 then (bif m2 then .bool m3 else undef) else undef, bif m1 then (bif m2 then .bool m3 else .bool false) else .bool false] ?hxb ?_
  case hxb =>
    refine ⟨?xb0, ?xb1, ?xb2, ?xb3, ?xb4, ?xb5, ?xb6, ?xb7, ?xb8, ?xb9, ?xb10, ?xb11, ?xb12, ?xb13, ?xb14, ?xb15, trivial⟩
    all_goals intro u w' hf hR
    all_goals simp only [z1, z2, z3, z4, puts, Act.put, z5, z6, z7, Nat.reduceAdd, Nat.zero_add]
    case xb0 =>
      refine goS ?_
      have q0 : _ = some _ := (HM.out.fr hf (fun x => x)).cell 0
      go_simp
      exact ⟨rfl, Fr.refl _ _⟩
    case xb1 =>
      simp only [show u 0 = _ from hR 0]
      refine goS ?_
      go_simp
      exact ⟨rfl, Fr.refl _ _⟩
    case' xb2 => simp only [show u 1 = _ from hR 1]
    case' xb3 =>
      simp only [show u 2 = _ from hR 2]
      cases m1
      case false => exact skS
    case' xb4 =>
      simp only [show u 3 = _ from hR 3, show u 2 = _ from hR 2]
      cases m1
      case false => exact skS
    case' xb5 =>
      simp only [show u 4 = _ from hR 4, show u 2 = _ from hR 2]
      cases m1
      case false => exact skS
    case xb6 =>
      simp only [show u 5 = _ from hR 5, show u 2 = _ from hR 2]
      cases m1
      case false => exact skS
      refine goS ?_
      have q0 : w'.cell? ⟨g, 3, none⟩ = some (.string q) := (HB.out.fr hf (fun x => x)).cell 3
      go_simp
      exact ⟨rfl, Fr.refl _ _⟩
    case xb7 =>
      simp only [show u 6 = _ from hR 6, show u 2 = _ from hR 2]
      cases m1
      case false => exact skS
      refine goS ?_
      go_simp
      exact ⟨rfl, Fr.refl _ _⟩
    case' xb8 =>
      simp only [show u 2 = _ from hR 2, show u 7 = _ from hR 7]
      cases m1
    case' xb9 =>
      simp only [show u 8 = _ from hR 8]
      cases m1
    case' xb10 =>
      simp only [show u 9 = _ from hR 9]
      cases m1
      case false => exact skS
      cases m2
      case false => exact skS
    case' xb11 =>
      simp only [show u 10 = _ from hR 10, show u 9 = _ from hR 9]
      cases m1
      case false => exact skS
      cases m2
      case false => exact skS
    case' xb12 =>
      simp only [show u 11 = _ from hR 11, show u 9 = _ from hR 9]
      cases m1
      case false => exact skS
      cases m2
      case false => exact skS
    case xb13 =>
      simp only [show u 12 = _ from hR 12, show u 9 = _ from hR 9]
      cases m1
      case false => exact skS
      cases m2
      case false => exact skS
      refine goS ?_
      have q0 : w'.cell? ⟨g, 2, none⟩ = some (.int .i64 (wr : Nat)) := (HB.out.fr hf (fun x => x)).cell 2
      go_simp
      exact ⟨rfl, Fr.refl _ _⟩
    case xb14 =>
      simp only [show u 13 = _ from hR 13, show u 9 = _ from hR 9]
      cases m1
      case false => exact skS
      cases m2
      case false => exact skS
      refine goS ?_
      go_simp
      exact ⟨rfl, Fr.refl _ _⟩
    case' xb15 =>
      simp only [show u 9 = _ from hR 9, show u 14 = _ from hR 14]
      cases m1 <;> cases m2
    all_goals
      try simp only [cond]
      refine goS ?_
      go_simp
      exact ⟨rfl, Fr.refl _ _⟩
  intro w' hf
  simp only [z1, z2, z3, z4, puts, Act.put, z5, z6, z7, z8, z9, z10, z11, Nat.reduceAdd, Nat.zero_add]
  simp only [HZ.out]
  have c0 : w'.cell? ⟨gm, 0, none⟩ = some (.int .i64 (most : Nat)) := (HM.out.fr hf (fun x => x)).cell 0
  have c3 : w'.cell? ⟨g, 3, none⟩ = some (.string q) := (HB.out.fr hf (fun x => x)).cell 3
  have B2 := Lib.hid (HB.out.fr hf (fun x => x))
  have S2 := Lib.hid (HS.out.fr hf (fun x => x))
  have HM2 := Lib.hid (HM.out.fr hf (fun x => x))
  have F2 := Lib.hid hf
  clear hf HB HS HM HZ t0 t0' t1 t1b t2 t3 t3b c0 c3
  go_upto_region 5 with fail
  refine wp_mid 7 (by kernel_rfl) (by kernel_rfl) ?_
  intro w2 f2
  have B3 := Lib.hid (B2.out.fr f2 (fun x => x))
  have S3 := Lib.hid (S2.out.fr f2 (fun x => x))
  have F3 := Lib.hid (F2.out.trans f2)
  have c0 : w2.cell? ⟨gm, 0, none⟩ = some (.int .i64 (most : Nat)) := (HM2.out.fr f2 (fun x => x)).cell 0
  have c3 : w2.cell? ⟨g, 3, none⟩ = some (.string q) := B3.out.cell 3
  clear f2 B2 S2 F2
  simp only [List.take_succ_cons, List.take_zero, List.drop_succ_cons, List.drop_zero]
  repeat still_step
  refine wpStill_nil ?_
  go_wp2_with fail
  refine wpStill_nil ?_
  clear c0 c3
  go_upto_region 6 with fail
  refine wp_kl 14 (fun k => k = gs) (fun i => i == 13) (fun i j => false) [iS (.pointer (some ⟨g, 0, none⟩)), iS (.pointer (some ⟨g, 0, none⟩)), iS (.pointer (some ⟨g, 0, none⟩)), iS (.pointer (some ⟨g, 3, none⟩)), iS (.string q), iS (.int .i64 (n : Nat)), iS (.string (q.extract 0 n)), iS (.pointer (some ⟨g, 0, none⟩)), iS (.pointer (some ⟨g, 0, none⟩)), iS (.pointer (some ⟨g, 3, none⟩)), iS (.string q), iS (.int .i64 (n : Nat)), iS (.string (q.extract n q.size)), ⟨fun _ zW => Blk zW gs 9 #[.string (q.extract 0 n)], fun _ _ _ f h => h.fr f (fun x => x)⟩] ?hxc ?_
  case hxc =>
    refine ⟨?xc0, ?xc1, ?xc2, ?xc3, ?xc4, ?xc5, ?xc6, ?xc7, ?xc8, ?xc9, ?xc10, ?xc11, ?xc12, ?xc13, trivial⟩
    all_goals intro u w' hf hR hq
    all_goals simp only [z1, z2, z3, z4, puts, Act.put, z5, z6, z7, Nat.reduceAdd, Nat.zero_add]
    case' xc2 => simp only [show u 1 = _ from hR 1]
    case' xc3 => simp only [show u 2 = _ from hR 2]
    case xc4 =>
      simp only [show u 3 = _ from hR 3]
      refine goS ?_
      have q0 : w'.cell? ⟨g, 3, none⟩ = some (.string q) := (B3.out.fr hf HG.out).cell 3
      go_simp
      exact ⟨_, rfl, Fr.refl _ _, rfl⟩
    case xc6 =>
      simp only [show u 4 = _ from hR 4, show u 5 = _ from hR 5]
      refine goS ?_
      go_simp
      exact ⟨_, rfl, Fr.refl _ _, rfl⟩
    case' xc8 => simp only [show u 7 = _ from hR 7]
    case' xc9 => simp only [show u 8 = _ from hR 8]
    case xc10 =>
      simp only [show u 9 = _ from hR 9]
      refine goS ?_
      have q0 : w'.cell? ⟨g, 3, none⟩ = some (.string q) := (B3.out.fr hf HG.out).cell 3
      go_simp
      exact ⟨_, rfl, Fr.refl _ _, rfl⟩
    case xc12 =>
      simp only [show u 10 = _ from hR 10, show u 11 = _ from hR 11]
      refine goS ?_
      go_simp
      exact ⟨_, rfl, Fr.refl _ _, rfl⟩
    case xc13 =>
      simp only [show u 6 = _ from hR 6]
      refine goS ?_
      refine wp_storeFld 9 (.tmp 2) _ rfl gs 0 (.string (q.extract 0 n)) rfl rfl rfl (by kernel_rfl) _ _ #[.string (q.extract 0 n)] (S3.out.fr (hq (by kernel_rfl)) (fun x => x)) (show 0 < 1 by decide) rfl ?_
      intro w5 b5 f5
      exact ⟨_, rfl, ⟨hf.trans f5, ⟨fun _ h => h, fun _ h => h, fun _ h => h, fun _ h => h, fun _ h => h, fun _ h => h, fun _ h => h, fun _ h => h, fun _ h => h, fun _ h => h, fun _ h => h, fun _ h => h, fun _ h => h, noS, trivial⟩⟩, b5⟩
    all_goals
      refine goS ?_
      go_simp
      exact ⟨_, rfl, Fr.refl _ _, rfl⟩
  intro u w' hf hR
  have b13 := hR 13 (by omega)
  simp only [z1, z2, z3, z4, puts, Act.put, z5, z6, z7, z8, z9, Nat.reduceAdd, Nat.zero_add, show u 0 = _ from hR 0 (by omega), show u 12 = _ from hR 12 (by omega)]
  clear hR
  have B4 := Lib.hid (B3.out.fr hf HG.out)
  have S4 : Hid (Blk w' gs 9 #[.string (q.extract 0 n)]) := b13
  have F4 : Hid (Fr (fun k => k = g ∨ k = gs) W w') := (F3.out.weak).trans (hf.mono fun _ _ h => .inr h)
  clear b13 hf B3 S3 F3
  go_wp2_with (refine wpList_storeFld rfl 9 (.tmp 45) _ rfl g 3 (.string (q.extract n q.size)) rfl rfl rfl (by kernel_rfl) _ _ (PipeV.cells ⟨ep, rd, wr, q.extract n q.size⟩).toArray B4.out (show 3 < 4 by decide) rfl ?_)
  intro w5 b5 f5
  have B5 := Lib.hid b5
  have S5 := Lib.hid (S4.out.fr f5 (fun e => HG.out e.symm))
  have F5 : Hid (Fr (fun k => k = g ∨ k = gs) W w5) := F4.out.trans (f5.mono fun _ _ h => .inl h)
  clear b5 f5 B4 S4 F4
  go_wp2
  go_ret
  exact ⟨rfl, B5.out, S5.out, F5.out⟩
end Go.Proofs.YtmpokappjogehaaGreatDoor
