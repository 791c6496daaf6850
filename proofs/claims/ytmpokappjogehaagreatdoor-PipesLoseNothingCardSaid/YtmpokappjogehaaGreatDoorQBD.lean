/- Steps of the proof of LawPipesLoseNothing: contracts of the functions that the law reaches, for every world that holds what each of them asks. -/
import Derived.Test.YtmpokappjogehaaGreatDoorQBA
import Derived.Test.YtmpokappjogehaaGreatDoorQAX
import Derived.Test.YtmpokappjogehaaGreatDoorQBB
import Derived.Test.YtmpokappjogehaaGreatDoorQBC
set_option linter.unusedVariables false
set_option linter.unusedSimpArgs false
namespace Go.Proofs.YtmpokappjogehaaGreatDoor
namespace Ev
open Go Go.RowKit
def sameS (a b : Str) : Bool := Nat.beq a.len b.len && Nat.beq a.num b.num
theorem sameS_eq {a b : Str} (h : sameS a b = true) : a = b := by
  obtain ⟨x, y⟩ := a
  obtain ⟨x', y'⟩ := b
  simp only [sameS, Bool.and_eq_true] at h
  rw [Nat.eq_of_beq_eq_true h.1, Nat.eq_of_beq_eq_true h.2]
def sameN (a b : EName) : Bool := eqF a.kind b.kind && (sameS a.owner b.owner && (eqF a.number b.number && (eqF a.index b.index && sameS a.text b.text)))
theorem sameN_eq {a b : EName} (h : sameN a b = true) : a = b := by
  obtain ⟨k, o, n, i, t⟩ := a
  obtain ⟨k', o', n', i', t'⟩ := b
  simp only [sameN, Bool.and_eq_true, eqF_eq, beq_iff_eq] at h
  obtain ⟨rfl, h2, rfl, rfl, h5⟩ := h
  rw [sameS_eq h2, sameS_eq h5]
def sameC (a b : ECall) : Bool := sameN a.nm b.nm && (EV.same a.value b.value && (bif a.absent then b.absent else !b.absent))
theorem sameC_eq {a b : ECall} (h : sameC a b = true) : a = b := by
  obtain ⟨n, v, x⟩ := a
  obtain ⟨n', v', x'⟩ := b
  simp only [sameC, Bool.and_eq_true] at h
  obtain ⟨h1, h2, h3⟩ := h
  rw [sameN_eq h1, same_eq _ _ h2]
  congr 1
  cases x <;> cases x' <;> simp_all
def sameL : List ECall → List ECall → Bool
  | [], [] => true
  | a :: l, b :: r => bif sameC a b then sameL l r else false
  | _, _ => false
theorem sameL_eq : ∀ {a b : List ECall}, sameL a b = true → a = b
  | [], [], _ => rfl
  | a :: l, b :: r, h => by
    simp only [sameL] at h
    cases hc : sameC a b with
    | true => rw [hc] at h; rw [sameC_eq hc, sameL_eq h]
    | false => rw [hc] at h; cases h
  | [], _ :: _, h => by cases h
  | _ :: _, [], h => by cases h
/-- A call on a view: before and after. -/
structure ME where
  f : Nat
  args : List EV
  l : List ECall
  r : EV
  l' : List ECall
def meEv (e : ME) : Caller XO := fun f args m => bif Nat.beq f e.f then (match args with
  | .ptr id 0 :: xs => match m.h.get id with
    | some (.ext (.view none l)) => bif EV.sames xs e.args && sameL l e.l then some (e.r, m.upd id (.ext (.view none e.l'))) else none
    | _ => none
  | _ => none) else none
def memo : List ME → Caller XO
  | [] => fun _ _ _ => none
  | e :: t => orK (meEv e) (memo t)
theorem memo_ok {ρ : Nat → Value} {K : Caller XO} (hK : CallOk (TX ρ) Tryz.prog ρ K) : ∀ tab : List ME, (∀ e ∈ tab, viewRun K e.f e.args none e.l = some (e.r, none, e.l')) → CallOk (TX ρ) Tryz.prog ρ (memo tab)
  | [], _ => fun f args m v m' h => by cases h
  | e :: t, h => callOk_or (fun f args m v m' hm => by
      unfold meEv at hm
      replace hm := bif_some hm
      rcases hm with ⟨hf, hm⟩ | ⟨_, hm⟩
      · obtain rfl := Nat.eq_of_beq_eq_true hf
        split at hm
        · split at hm
          · rename_i hg
            replace hm := bif_some hm
            rcases hm with ⟨hb, hm⟩ | ⟨_, hm⟩
            · simp only [Bool.and_eq_true] at hb
              injection hm with hm; injection hm with h1 h2; subst h1 h2
              rw [sames_eq _ _ hb.1]
              rw [sameL_eq hb.2] at hg
              exact viewRun_ok hK (h e (List.mem_cons_self ..)) hg
            · cases hm
          · cases hm
        · cases hm
      · cases hm) (memo_ok hK t fun e he => h e (List.mem_cons_of_mem _ he))
end Ev
end Go.Proofs.YtmpokappjogehaaGreatDoor

namespace Go.Proofs.YtmpokappjogehaaGreatDoor
namespace Ev
open Go Go.RowKit
def tab : List ME := [
  ⟨14, [], lv0, .int .i64 (.ofNat 0), lv1⟩,
  ⟨15, [.agg [.str ⟨1, 57⟩, .int .i64 (.ofNat 0), .nils, .str ⟨0,0⟩, .int .i64 (.ofNat 0)], .str ⟨4, 795834222⟩, .int .i64 (.ofNat 448)], lv1, .tup [.agg [.str ⟨1, 57⟩, .int .i64 (.ofNat 0)], .int .i64 (.ofNat 0)], lv2⟩,
  ⟨15, [.agg [.str ⟨1, 57⟩, .int .i64 (.ofNat 0), .nils, .str ⟨0,0⟩, .int .i64 (.ofNat 0)], .str ⟨4, 796159344⟩, .int .i64 (.ofNat 511)], lv2, .tup [.agg [.str ⟨1, 57⟩, .int .i64 (.ofNat 1)], .int .i64 (.ofNat 0)], lv3⟩,
  ⟨16, [.agg [.str ⟨1, 57⟩, .int .i64 (.ofNat 0), .nils, .str ⟨0,0⟩, .int .i64 (.ofNat 0)], .str ⟨6, 52155791585126⟩, .int .i64 (.ofNat 6), .int .i64 (.ofNat 420)], lv3, .tup [.agg [.str ⟨1, 57⟩, .int .i64 (.ofNat 2)], .int .i64 (.ofNat 0)], lv4⟩,
  ⟨17, [.agg [.str ⟨1, 57⟩, .int .i64 (.ofNat 2)], .int .i64 (.ofNat 0), .str ⟨6, 126879297332596⟩], lv4, .tup [.int .i64 (.ofNat 6), .int .i64 (.ofNat 0)], lv5⟩,
  ⟨18, [.agg [.str ⟨1, 57⟩, .int .i64 (.ofNat 0), .nils, .str ⟨0,0⟩, .int .i64 (.ofNat 0)], .str ⟨6, 52155791585126⟩, .int .i64 (.ofNat 7), .int .i64 (.ofNat 0)], lv5, .int .i64 (.ofNat 0), lv6⟩,
  ⟨16, [.agg [.str ⟨1, 57⟩, .int .i64 (.ofNat 0), .nils, .str ⟨0,0⟩, .int .i64 (.ofNat 0)], .str ⟨2, 12134⟩, .int .i64 (.ofNat 6), .int .i64 (.ofNat 420)], lv6, .tup [.agg [.str ⟨1, 57⟩, .int .i64 (.ofNat 3)], .int .i64 (.ofNat 0)], lv7⟩,
  ⟨17, [.agg [.str ⟨1, 57⟩, .int .i64 (.ofNat 3)], .int .i64 (.ofNat 0), .str ⟨6, 126879297332596⟩], lv7, .tup [.int .i64 (.ofNat 6), .int .i64 (.ofNat 0)], lv8⟩,
  ⟨18, [.agg [.str ⟨1, 57⟩, .int .i64 (.ofNat 0), .nils, .str ⟨0,0⟩, .int .i64 (.ofNat 0)], .str ⟨2, 12134⟩, .int .i64 (.ofNat 7), .int .i64 (.ofNat 0)], lv8, .int .i64 (.ofNat 0), lv9⟩,
  ⟨18, [.agg [.str ⟨1, 57⟩, .int .i64 (.ofNat 0), .nils, .str ⟨0,0⟩, .int .i64 (.ofNat 0)], .str ⟨4, 795834222⟩, .int .i64 (.ofNat 7), .int .i64 (.ofNat 0)], lv9, .int .i64 (.ofNat 0), lv10⟩,
  ⟨19, [.str ⟨1, 49⟩, .agg [.int .i64 (.ofNat 2), .int .i64 (.ofNat 1), .int .i64 (.ofNat 0), .int .i64 (.ofNat 0), .int .i64 (.ofNat 7), .nils, .str ⟨1, 49⟩, .int .i64 (.ofNat 0), .str ⟨0,0⟩, .int .i64 (.ofNat 0), .int .i64 (.ofNat 0)]], lv10, .int .i64 (.ofNat 0), lv11⟩,
  ⟨19, [.str ⟨1, 50⟩, .agg [.int .i64 (.ofNat 2), .int .i64 (.ofNat 1), .int .i64 (.ofNat 0), .int .i64 (.ofNat 0), .int .i64 (.ofNat 8), .nils, .str ⟨1, 50⟩, .int .i64 (.ofNat 0), .str ⟨0,0⟩, .int .i64 (.ofNat 0), .int .i64 (.ofNat 0)]], lv11, .int .i64 (.ofNat 0), lv12⟩,
  ⟨6, [.str ⟨1, 49⟩], lv12, .tup [.int .i64 (.ofNat 0), .int .i64 (.ofNat 1), .int .i64 (.ofNat 0)], lv13⟩,
  ⟨7, [.str ⟨1, 49⟩, .bool false], lv13, .tup [.str ⟨3, 3223089⟩, .int .i64 (.ofNat 0)], lv14⟩,
  ⟨8, [.str ⟨1, 49⟩, .int .i64 (.ofNat 0)], lv14, .int .i64 (.ofNat 0), lv15⟩,
  ⟨8, [.str ⟨3, 3223089⟩, .int .i64 (.ofNat 1)], lv15, .int .i64 (.ofNat 0), lv16⟩]
theorem tab_ok : ∀ e ∈ tab, viewRun kSt e.f e.args none e.l = some (e.r, none, e.l') := by
  intro e he
  simp only [tab, List.mem_cons, List.not_mem_nil, or_false] at he
  rcases he with rfl | rfl | rfl | rfl | rfl | rfl | rfl | rfl | rfl | rfl | rfl | rfl | rfl | rfl | rfl | rfl
  · exact st1
  · exact st2
  · exact st3
  · exact st4
  · exact st5
  · exact st6
  · exact st7
  · exact st8
  · exact st9
  · exact st10
  · exact st11
  · exact st12
  · exact st13
  · exact st14
  · exact st15
  · exact st16
noncomputable def kM : Caller XO := orK (memo tab) kAll
def mE : Mem XO := ⟨.nil, 0⟩
noncomputable def machineB : Bool := match runE kM 4 [] mE with
  | some (.tup [.ptr id 0, .bool true], m) => match m.h.get id with
    | some (.ext (.view none l)) => sameL l lv12
    | _ => false
  | _ => false
theorem machine_run : machineB = true := by kernel_rfl
end Ev
end Go.Proofs.YtmpokappjogehaaGreatDoor

namespace Go.Proofs.YtmpokappjogehaaGreatDoor
namespace Ev
open Go Go.RowKit
theorem empty_rel (ρ : Nat → Value) {w : World} (hU : UsaT w) (hw : 0 < w.heap.size) : HRel (TX ρ) ρ (fun _ => none) (fun _ => none) mE w :=
  ⟨fun _ _ => rfl, fun _ _ h => (by cases h), fun b hb => ⟨by have hb' : b = 0 := hb; subst hb'; exact hw, rfl⟩, hU, fun i o h => by cases h⟩
theorem kM_ok {ρ : Nat → Value} (hK : CallOk (TX ρ) Tryz.prog ρ kSt) : CallOk (TX ρ) Tryz.prog ρ kM := callOk_or (memo_ok hK tab tab_ok) (kAll_ok ρ)
theorem machine_m : ∃ m id, runE kM 4 [] mE = some (.tup [.ptr id 0, .bool true], m) ∧ m.h.get id = some (.ext (.view none lv12)) := by
  have h := machine_run
  unfold machineB at h
  split at h
  · rename_i id m hr
    split at h
    · rename_i l hg
      rw [sameL_eq h] at hg
      exact ⟨m, id, hr, hg⟩
    · cases h
  · cases h
noncomputable def knownB : Bool := match runE kAll 5 [] mE with
  | some (.bool true, _) => true
  | _ => false
theorem known_run : knownB = true := by kernel_rfl
theorem known_m : ∃ m, runE kAll 5 [] mE = some (.bool true, m) := by
  have h := known_run
  unfold knownB at h
  split at h
  · rename_i m hr
    exact ⟨m, hr⟩
  · cases h
/-- Known is true, and turns nothing. -/
theorem Known_any (w : World) (hU : UsaT w) (hw : 0 < w.heap.size) : Calls Tryz.prog 5 #[] w (fun e w' => e = .returned (.bool true) ∧ Fr Nothing w w') := by
  obtain ⟨m, hr⟩ := known_m
  refine ((runE_ok (kAll_ok (fun _ => undef)) _ _ _ _ _ hr).2 (fun _ => none) (fun _ => none) w [] rfl (empty_rel _ hU hw)).mono ?_
  rintro e w' ⟨u, σ', own', rfl, hu, _, hst⟩
  injection hu with hu
  subst hu
  exact ⟨rfl, hst.fr.mono fun k _ ⟨r, h⟩ => by cases h⟩
end Ev
end Go.Proofs.YtmpokappjogehaaGreatDoor
