/- State: the nodes of a state in order, with a property (written by genSce.py). -/
import Derived.Test.YtpnchdgplpdefaaDoorSaM
namespace Go.Proofs.YtpnchdgplpdefaaDoor
open Go.RowKit Go.Shelf

attribute [local go_sem] Oper.semAt_some
abbrev NdQ (w : World) (P : Nd → Prop) := {x : Nd // NdAt w x ∧ P x}
def ndEncQ {w : World} {P : Nd → Prop} (x : NdQ w P) : Array Value := #[.pointer (some ⟨x.1.g, 0, none⟩)]
def ndVQ {w : World} {P : Nd → Prop} (x : NdQ w P) : NameV × ByteArray := (x.1.nm, x.1.v)
def EachedQ (w : World) (P : Nd → Prop) (J Jx : List (NdQ w P) → World → Prop) (pre xs : List (NdQ w P)) (e : Ending) (W' : World) : Prop :=
  (e = .returned (.bool true) ∧ J (pre ++ xs) W' ∧ KN w W') ∨ (e = .returned (.bool false) ∧ ∃ q, q <+: xs ∧ Jx (pre ++ q) W')

/-- The nodes of a tree in order: where they lie. -/
inductive OrdQ (w : World) (P : Nd → Prop) : Option Addr → Tr → List (NdQ w P) → Prop where
  | leaf : OrdQ w P none .leaf []
  | node {l r : Tr} {nm : NameV} {v : ByteArray} {g : Nat} {la ra : Option Addr} {L R : List (NdQ w P)} (hl : OrdQ w P la l L) (hr : OrdQ w P ra r R)
      (hb : Blk w g 89 (nodeC la ra (.node l nm v r)).toArray) (x : NdQ w P) (hx : x.1 = ⟨g, nm, v⟩) : OrdQ w P (some ⟨g, 0, none⟩) (.node l nm v r) (L ++ x :: R)
theorem OrdQ.of {w : World} {P : Nd → Prop} : ∀ {a : Option Addr} {t : Tr}, NodH w a t → (∀ g e, e ∈ t.toL → P ⟨g, e.1, e.2⟩) → ∃ L, OrdQ w P a t L
  | _, .leaf, h, _ => by
    obtain rfl : _ = none := h
    exact ⟨[], .leaf⟩
  | _, .node l nm v r, ⟨g, la, ra, e, h1, h2, hb⟩, hP => by
    subst e
    obtain ⟨L, hL⟩ := OrdQ.of h1 (fun g e he => hP g e (by rw [Tr.toL]; simp [he]))
    obtain ⟨R, hR⟩ := OrdQ.of h2 (fun g e he => hP g e (by rw [Tr.toL]; simp [he]))
    exact ⟨_, .node hL hR hb ⟨⟨g, nm, v⟩, ⟨_, _, _, _, _, hb⟩, hP g (nm, v) (by rw [Tr.toL]; simp)⟩ rfl⟩
theorem OrdQ.toL {w : World} {P : Nd → Prop} {a : Option Addr} {t : Tr} {L : List (NdQ w P)} (h : OrdQ w P a t L) : L.map ndVQ = t.toL := by
  induction h with
  | leaf => rfl
  | node _ _ _ x hx h1 h2 =>
    rw [List.map_append, List.map_cons, h1, h2, Tr.toL]
    simp only [ndVQ, hx]

set_option maxRecDepth 100000 in
set_option maxHeartbeats 2000000 in
theorem each_inQ (l N : Nat) (w : World) (P : Nd → Prop) (J Jx : List (NdQ w P) → World → Prop)
    (hY : ∀ m pre x W, J pre W → KN w W → pre.length < N → YieldAt Fence.wide m Tryd.prog l (ndEncQ x) W fun e W' => (e = .returned (.bool true) ∧ J (pre ++ [x]) W' ∧ KN W W') ∨ (e = .returned (.bool false) ∧ Jx (pre ++ [x]) W'))
    {a : Option Addr} {t : Tr} {L : List (NdQ w P)} (h : OrdQ w P a t L) :
    ∀ (m : Nat) (pre : List (NdQ w P)) (W : World), J pre W → KN w W → pre.length + L.length ≤ N →
      CallsIn Fence.wide m Tryd.prog 73 #[.pointer a, .func (.yield l) #[] #[]] W (EachedQ w P J Jx pre L) := by
  induction h with
  | leaf =>
    intro m pre W hJ hK _
    refine callsIn_of_wp Tryd.func73 rfl trivial ?_ rfl
    simp only [Tryd.ntmps73, List.size_toArray, List.length_cons, List.length_nil, Nat.reduceAdd, Nat.reduceSub, Array.replicate_succ, Array.replicate_zero, List.push_toArray, List.append_toArray, List.nil_append, List.cons_append]
    gi_wp2_with (refine wpListIn_skipW rfl ?_)
    go_ret
    exact .inl ⟨rfl, by simpa using hJ, hK⟩
  | @node tl tr nm v g la ra L R hl hr hb x hx ihl ihr =>
    intro m pre W hJ hK hN
    have hdd : ∀ k : Nat, (Fence.wide.depth.isSome = true → 1 ≤ k) := fun k h => by cases h
    rw [List.length_append, List.length_cons] at hN
    have hq : ndEncQ x = #[Value.pointer (some ⟨g, 0, none⟩)] := by rw [ndEncQ, hx]
    have hy2 : ∀ W1, J (pre ++ L) W1 → KN w W1 → YieldAt Fence.wide (m - 1) Tryd.prog l #[.pointer (some ⟨g, 0, none⟩)] W1 fun e W2 =>
        (e = .returned (.bool true) ∧ J (pre ++ L ++ [x]) W2 ∧ KN W1 W2) ∨ (e = .returned (.bool false) ∧ Jx (pre ++ L ++ [x]) W2) := fun W1 hJ1 hK1 => by
      have := hY (m - 1) (pre ++ L) x W1 hJ1 hK1 (by simp; omega)
      rw [hq] at this
      exact this
    have ih1 := Lib.hid ((ihl (m - 1) pre W hJ hK (by omega)).mono (R' := fun e W1 =>
        (e = .returned (.bool true) ∧ KN w W1 ∧ YieldAt Fence.wide (m - 1) Tryd.prog l #[.pointer (some ⟨g, 0, none⟩)] W1 fun e W2 =>
          (e = .returned (.bool true) ∧ J (pre ++ L ++ [x]) W2 ∧ KN W1 W2) ∨ (e = .returned (.bool false) ∧ Jx (pre ++ L ++ [x]) W2)) ∨
        (e = .returned (.bool false) ∧ ∃ q, q <+: L ∧ Jx (pre ++ q) W1))
      (fun e W1 h => h.elim (fun ⟨he, hj, hk⟩ => .inl ⟨he, hk, hy2 W1 hj hk⟩) .inr))
    have ih2 := Lib.hid (fun W hJ hK => ihr (m - 1) (pre ++ L ++ [x]) W hJ hK (by simp; omega))
    have c0 : W.cell? ⟨g, 0, none⟩ = some (.pointer la) := (hK _ _ hb).cell 0
    have HB := Lib.hid hb
    clear hy2 ihl ihr hY hN hb hq
    refine callsIn_of_wp Tryd.func73 rfl trivial ?_ rfl
    simp only [Tryd.ntmps73, List.size_toArray, List.length_cons, List.length_nil, Nat.reduceAdd, Nat.reduceSub, Array.replicate_succ, Array.replicate_zero, List.push_toArray, List.append_toArray, List.nil_append, List.cons_append]
    gi_wp2_with ((try refine ⟨trivial, hdd _, ?_⟩); gi_at_call 73; refine ih1.out.mono ?_; clear ih1; rintro e W1 (⟨rfl, hk1, fn, tmps, assign, body, hy, hR⟩ | ⟨rfl, q, hq, hx1⟩))
    · have HK1 := Lib.hid hk1
      have c1 : W1.cell? ⟨g, 1, none⟩ = some (.pointer ra) := (hk1 _ _ HB.out).cell 1
      clear hk1 c0
      refine ⟨hdd _, ?_⟩
      refine hR.mono ?_
      clear hR
      rintro e W2 (⟨rfl, hJ2, hk2⟩ | ⟨rfl, hx2⟩)
      · have hk := HK1.out.trans hk2
        have HK := Lib.hid hk
        have HJ2 := Lib.hid hJ2
        have c1 : W2.cell? ⟨g, 1, none⟩ = some (.pointer ra) := (hk _ _ HB.out).cell 1
        clear hk hk2 hJ2 HK1
        gi_wp2_with ((try refine ⟨trivial, hdd _, ?_⟩); gi_at_call 73; refine (ih2.out _ HJ2.out HK.out).mono ?_; clear ih2; rintro e W3 (⟨rfl, hJ3, hk3⟩ | ⟨rfl, q, hq, hx3⟩))
        · go_ret
          exact .inl ⟨rfl, by simpa [List.append_assoc] using hJ3, hk3⟩
        · go_ret
          exact .inr ⟨rfl, L ++ x :: q, by
            obtain ⟨z, rfl⟩ := hq
            exact ⟨z, by simp⟩, by simpa [List.append_assoc] using hx3⟩
      · gi_wp2_with (refine wpListIn_skipW rfl ?_)
        go_ret
        exact .inr ⟨rfl, L ++ [x], by exact ⟨R, by simp⟩, by simpa [List.append_assoc] using hx2⟩
    · refine ⟨fun _ h => (by cases h), ?_⟩
      gi_wp2_with (refine wpListIn_skipW rfl ?_)
      go_ret
      exact .inr ⟨rfl, q, hq.trans (List.prefix_append _ _), hx1⟩

set_option maxHeartbeats 1000000 in
theorem nodes_stopsQ (m B s : Nat) (a : Option Addr) (t : Tr) (w : World) (P : Nd → Prop) (L : List (NdQ w P)) (hO : OrdQ w P a t L) (hB : Blk w B 24 #[.pointer (some ⟨s, 0, none⟩)]) (hS : Blk w s 85 #[.pointer a]) :
    SeqStopsK Fence.wide m Tryd.prog 72 #[.pointer (some ⟨B, 0, none⟩)] (fun x : NdQ w P => #[Value.pointer (some ⟨x.1.g, 0, none⟩)]) KN (fun ys => ys = L) (fun pre => pre <+: L) L.length w := by
  intro l J Jx W hW _ _ hY h0
  have hdd : ∀ k : Nat, (Fence.wide.depth.isSome = true → 1 ≤ k) := fun k h => by cases h
  have hp := each_inQ l L.length w P J Jx (fun m pre x W hj _ hl => YieldAt.anyDepth rfl m (hY pre x W hj hl)) hO (m - 1) [] W h0 (KN.below hW) (by simp)
  have c1 : W.cell? ⟨B, 0, none⟩ = some (.pointer (some ⟨s, 0, none⟩)) := (hW.cell (p := ⟨B, 0, none⟩) hB.lt).trans (hB.cell 0)
  have c2 : W.cell? ⟨s, 0, none⟩ = some (.pointer a) := (hW.cell (p := ⟨s, 0, none⟩) hS.lt).trans (hS.cell 0)
  refine callsIn_of_wp Tryd.func72 rfl trivial ?_ rfl
  simp only [Tryd.ntmps72, List.size_toArray, List.length_cons, List.length_nil, Nat.reduceAdd, Nat.reduceSub, Array.replicate_succ, Array.replicate_zero, List.push_toArray, List.append_toArray, List.nil_append, List.cons_append]
  gi_wp2_with ((try refine ⟨trivial, hdd _, ?_⟩); gi_at_call 73; refine hp.mono ?_; clear hp; rintro e W1 (⟨rfl, hJ1, _⟩ | ⟨rfl, q, hq, hx⟩))
  · go_end0
    exact ⟨⟨_, rfl⟩, .inl ⟨_, rfl, by simpa using hJ1⟩⟩
  · go_end0
    exact ⟨⟨_, rfl⟩, .inr ⟨q, hq, by simpa using hx⟩⟩
end Go.Proofs.YtpnchdgplpdefaaDoor
