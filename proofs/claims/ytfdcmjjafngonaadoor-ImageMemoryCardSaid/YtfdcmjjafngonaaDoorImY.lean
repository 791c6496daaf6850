/- Pages of any image: one string for each page of the memory. -/
import Derived.Test.YtfdcmjjafngonaaDoorImX
namespace Go.Proofs.YtfdcmjjafngonaaDoor
open Go.RowKit Go.Shelf

attribute [local go_sem] Oper.semAt_some

theorem wpList_store1 {P : Program} {ops : Array Oper} {rest : List Oper} {o : Oper} {a : Act} {w : World} {Q : Exit → Act → World → Prop} (hgd : o.guard = none) (ty : TypeId) (x y : Operand) (ho : o.op = .store ty x y)
    (g : Nat) (v : Value) (hx : a.eval x = .pointer (some ⟨g, 0, none⟩)) (hy : a.eval y = v) (h1 : v.oneCell' = true)
    (t : TypeId) (old : Value) (hg : Blk w g t #[old]) (hi : (P.info? ty).map (·.size) = some 1)
    (h : ∀ w', Blk w' g t #[v] → Fr (fun k => k = g) w w' → wpList P ops Q rest (a.put o.dst undef) w') : wpList P ops Q (o :: rest) a w := by
  subst hy
  exact wpList_store_one hgd ty x y ho g hx h1 t old hg hi (h _ (heap_setRow_same hg) ((Fr.refl (fun k => k = g) w).setRow (fun _ => rfl) _))

theorem own_block {w : World} {base : Nat} {e : TypeId} {size n k : Nat} {v : Value} {xs : List Value} (h : w.ownsRow base e size v n xs) (hk : v.ownBlock = some k) : ∃ o, w.heap[k]? = some o ∧ o.isCells = true := by
  rcases h.2 with ⟨rfl, _⟩ | ⟨g', cap', cur, rfl, _, hh, _⟩
  · simp [Value.ownBlock] at hk
  · simp [Value.ownBlock] at hk
    subst hk
    exact ⟨_, hh, rfl⟩

def opLoads (t : TypeId) : Op → Bool
  | .load t' _ => t == t'
  | _ => false
theorem wpListIn_round1 {r n : Nat} {P : Program} {ops : Array Oper} {Q : Exit → Act → World → Prop} {o : Oper} {l : List Oper} {a : Act} {w : World} (f : Op → Bool) (_hf : f o.op = true) (hd : ((o :: l).all noDefer) = true) (h : wpList P ops (fun e a w => Q e a w ∧ e = .normal) (o :: l) a w) : wpListIn (Fence.wide.inRound r) n P ops Q (o :: l) a w :=
  wpListIn_round hd h

def pageV (M : ByteArray) (k : Nat) : Value := .string (M.extract (64 * k) (64 * k + 64))

/-- Between two rounds. -/
structure PgI (w1 : World) (g2 : Nat) (M : ByteArray) (pre : List Nat) (W : World) : Prop where
  fr : Fr (fun k => k = g2) w1 W
  row : ∃ v, Blk W g2 49 #[v] ∧ W.ownsRow 0 9 1 v pre.length (pre.map (pageV M)) ∧ ∀ k, v.ownBlock = some k → w1.heap.size ≤ k
theorem PgI.ownFrom {w1 : World} {g2 : Nat} {M : ByteArray} (h2 : g2 < w1.heap.size) : OwnFrom w1.heap.size (PgI w1 g2 M) := by
  intro pre A B row h hg hr
  have hrow : ∀ k, k < w1.heap.size → some k ≠ row := fun k hk e => by have := (hr k e.symm).1; omega
  have hf : Fr (fun k => some k = row) A B := Fr.grown hg
  obtain ⟨v, b11, hown, hl⟩ := h.row
  refine ⟨h.fr.then_ hf (fun i hi e => absurd e (hrow i hi)), ⟨v, b11.fr hf (fun e => hrow _ h2 e), own_fr hown hf (fun k hk e => ?_), hl⟩⟩
  obtain ⟨_, o, ho, hc⟩ := hr k e.symm
  obtain ⟨o', ho', hc'⟩ := own_block hown hk
  rw [ho'] at ho
  cases ho
  rw [hc'] at hc
  cases hc
theorem PgI.step {w1 W X X2 X3 : World} {g2 : Nat} {M : ByteArray} {pre : List Nat} {v v2 : Value} (x : Nat)
    (hI : PgI w1 g2 M pre W) (h2 : g2 < w1.heap.size)
    (hown : W.ownsRow 0 9 1 v pre.length (pre.map (pageV M))) (hlies : ∀ k, v.ownBlock = some k → w1.heap.size ≤ k)
    (hX : Fr Nothing W X) (hG : Grew 9 1 X v X2 v2 (pre.length + 1) (pre.map (pageV M) ++ [pageV M x])) (f3 : Fr (fun k => k = g2) X2 X3) (b3 : Blk X3 g2 49 #[v2]) :
    KeepsFrom w1.heap.size W X3 ∧ PgI w1 g2 M (pre ++ [x]) X3 := by
  have s1 : w1.heap.size ≤ W.heap.size := hI.fr.size
  have s2 : W.heap.size ≤ X.heap.size := hX.size
  have hl2 : ∀ k, v2.ownBlock = some k → w1.heap.size ≤ k := fun k hk => by
    rcases hG.lies k hk with h | h
    · exact hlies k h
    · omega
  have F : Fr (fun k => k = g2 ∨ v.ownBlock = some k) W X3 := by
    have A1 : Fr (fun k => k = g2 ∨ v.ownBlock = some k) W X2 := (hX.weak).trans (hG.fr.mono (fun i _ h => .inr h))
    exact A1.trans (f3.mono (fun i _ h => .inl h))
  refine ⟨⟨F.size, fun k o hB ho hc => ?_⟩, ?_, ?_⟩
  · refine (F.block k (Array.getElem?_eq_some_iff.1 ho).1 ?_).trans ho
    rintro (rfl | h)
    · omega
    · obtain ⟨o', ho', hc'⟩ := own_block hown h
      rw [ho] at ho'
      cases ho'
      rw [hc] at hc'
      cases hc'
  · refine hI.fr.then_ F (fun i hi h => ?_)
    rcases h with h | h
    · exact h
    · have := hlies i h
      omega
  · refine ⟨v2, b3, ?_, hl2⟩
    rw [List.length_append, List.length_singleton, List.map_append, List.map_singleton]
    refine own_fr hG.own f3 (fun k hk e => ?_)
    have e' : k = g2 := e
    have := hl2 k hk
    omega

theorem info49 : (Tryd.prog.info? 49).map (·.size) = some 1 := by kernel_rfl
theorem infoStr : (Tryd.prog.info? 9).map (fun i => (i.zero, i.size, i.bytes)) = some (some (.string ByteArray.empty), 1, 16) := by kernel_rfl
theorem infoStr3 : ∃ i, Tryd.prog.info? 9 = some i ∧ i.zero = some (.string ByteArray.empty) ∧ i.size = 1 ∧ i.bytes = 16 := by
  have h := infoStr
  cases h2 : Tryd.prog.info? 9 with
  | none => rw [h2] at h; cases h
  | some i =>
    rw [h2] at h
    simp only [Option.map_some, Option.some.injEq, Prod.mk.injEq] at h
    exact ⟨i, rfl, h.1, h.2.1, h.2.2⟩

set_option maxRecDepth 100000 in
set_option maxHeartbeats 1000000 in
theorem Pages_any (c d : ByteArray) (z e : Int) (M : ByteArray) (N : Nat) (w : World) (CM0 : ∀ w', Calls Tryd.prog 30 #[imgV c d z e] w' (SameIn w' (.string M))) (hM : M.size = 64 * N) (hN : N ≤ 64) :
    Calls Tryd.prog 29 #[imgV c d z e] w (fun r w' => ∃ v, r = .returned v ∧ Grew 9 1 w (.slice none 0 0) w' v N ((List.range N).map (pageV M))) := by
  have CP := Lib.hid (fun w => pages_any c d z e w)
  have ST := Lib.hid (fun B w hB => pages_stops 5 B N c d z e M w CM0 hM hN hB)
  obtain ⟨i0, hi0, hz0, hz1, hz2⟩ := infoStr3
  have HN := Lib.hid hN
  clear hN hM CM0
  refine (callsIn_wide (n := 6)).1 (callsIn_of_wp_marks Tryd.func29 rfl trivial (wpIn_wide.2 ?_) rfl)
  simp only [Tryd.ntmps29, List.size_toArray, List.length_cons, List.length_nil, Nat.reduceAdd, Nat.reduceSub, Array.replicate_succ, Array.replicate_zero, List.push_toArray, List.append_toArray, List.nil_append, List.cons_append]
  go_wp2_with (refine wpList_boxBlk rfl 27 (.tmp 0) rfl _ rfl ?_)
  intro w1 n1
  have B1 : Hid (Blk w1 w.heap.size 27 (imgC c d z e)) := n1.blk
  have F1 := Lib.hid n1.fr
  clear n1
  generalize w.heap.size = g at *
  go_wp2_with (refine wpList_allocBlk rfl 49 rfl (.slice none 0 0) zv49 #[.slice none 0 0] rfl ?_)
  intro w2 n2
  have B2 := Lib.hid n2.blk
  have F2 := Lib.hid (F1.out.trans n2.fr)
  obtain ⟨k0, k1, k2, k3⟩ := img_cells B1.out n2.fr
  have HG2 : Hid (w.heap.size ≤ w1.heap.size) := F1.out.size
  clear n2 F1 B1
  generalize w1.heap.size = g2 at *
  go_wp2_with fail
  refine (CP.out _).mono ?_
  rintro r w3 ⟨rfl, f3, b3⟩
  have F3 := Lib.hid (F2.out.trans f3)
  have B3 := Lib.hid (B2.out.fr f3 (fun x => x))
  have G3 := Lib.hid b3
  have LT : Hid (g2 < w3.heap.size) := B3.out.lt
  clear f3 b3 F2 B2 k0 k1 k2 k3
  generalize w2.heap.size = gs at *
  go_wp2_with fail
  refine (wpIn_wide (n := 6)).1 ?_
  refine wpIn_rangeFunc_ownG rfl (by omega) (gf := 65) (lb := #[.pointer (some ⟨gs, 0, none⟩)]) rfl trivial (enters_of Tryd.func65 (by kernel_rfl) rfl)
    (ST.out gs w3 G3.out) (fun _ _ => trivial) (fun _ _ _ _ _ _ _ _ => trivial) (Below.refl _ _) (fun _ => rfl)
    (PgI w3 g2 M) (fun _ _ _ => False) (PgI.ownFrom LT.out) (fun _ _ _ _ _ h _ _ => h.elim)
    ⟨Fr.refl _ _, ⟨_, B3.out, ⟨rfl, .inl ⟨rfl, rfl⟩⟩, fun k hk => by simp [Value.ownBlock] at hk⟩⟩ ?a1 ?assign ?body ?done ?stop
  case assign =>
    intro l x W K hK
    gi_wp2
    exact hK
  case body =>
    rintro l' pre x W hI hlt
    have HI := Lib.hid hI
    have HL := Lib.hid hlt
    obtain ⟨hf, ⟨v, b11, hrow, hlies⟩⟩ := hI
    obtain ⟨A1, m1, c1, rfl, H1, H2⟩ := own_slice hrow
    have HROW := Lib.hid hrow
    have HLI := Lib.hid hlies
    have B11 := Lib.hid b11
    have c11 := b11.cell 0
    simp only [List.getElem?_toArray, List.getElem?_cons_zero] at c11
    clear hf b11 hrow hlies hlt
    have HF := Lib.hid HI.out.fr
    gi_wp2_with (refine wpListIn_round1 (opLoads 49) rfl (by kernel_rfl) ?_)
    go_wp2_with (at_builtin; refine wpList_app1 _ rfl _ _ 49 rfl 9 i0 (.string ByteArray.empty) 1 16 Tryd.underlying49 hi0 hz0 hz1 hz2 rfl (by omega) _ _ _ rfl HROW.out 1 _ _ rfl rfl rfl ?e1 ?e2 (by omega) ?_)
    case e1 => simp [Value.oneCell']
    case e2 => have := HL.out; have := HN.out; omega
    intro v2 y2 hG
    have KG := Lib.hid hG
    clear hG
    have NB : Hid (∀ k, (Value.slice A1 m1 c1).ownBlock = some k → w3.heap.size ≤ k ∧ k < W.heap.size) := fun k hk => ⟨HLI.out k hk, by
      obtain ⟨o, ho, _⟩ := own_block HROW.out hk
      exact (Array.getElem?_eq_some_iff.1 ho).1⟩
    have B11y : Hid (Blk y2 g2 49 #[.slice A1 m1 c1]) := B11.out.fr KG.out.fr (fun e => by have := (NB.out _ e).1; have := LT.out; omega)
    obtain ⟨A2, m2, c2, rfl, _, _⟩ := own_slice KG.out.own
    go_wp2_with (refine wpList_store1 rfl 49 (.tmp 3) _ rfl g2 (.slice A2 m2 c2) rfl rfl rfl _ _ B11y.out info49 ?_)
    intro y3 b3 f3
    refine ⟨?_, rfl⟩
    have KEY := PgI.step (v := .slice A1 m1 c1) (v2 := .slice A2 m2 c2) x HI.out LT.out HROW.out HLI.out (Fr.refl _ _) KG.out f3 b3
    exact ⟨KEY.1, trivial, KEY.2⟩
  case done =>
    rintro D xs W hD rfl hI hK
    obtain ⟨hf, ⟨v, b11, hrow, hlies⟩⟩ := hI
    obtain ⟨A1, m1, c1, rfl, H1, H2⟩ := own_slice hrow
    have PF : Fr (fun k => some k = some D) W (W.putObj D (.deferred none)) := Fr.grown (grownBy_putObj' W D _)
    have HDL := Lib.hid hD
    have KD := Lib.hid hK
    have S1 : Hid (w.heap.size ≤ g2) := HG2.out
    have JF : Hid (Fr Nothing w (W.putObj D (.deferred none))) := (F3.out.then_ hf (fun i hi e => by have e' : i = g2 := e; have := S1.out; omega)).then_ PF (fun i hi e => by have e' : i = D := (by simpa using e); have := F3.out.size; have := hD; omega)
    have KO : Hid ((W.putObj D (.deferred none)).ownsRow 0 9 1 (.slice A1 m1 c1) N ((List.range N).map (pageV M))) := by
      have h := own_fr hrow PF (fun k hk e => by
            have e' : k = D := by simpa using e
            subst e'
            obtain ⟨o, ho, hc⟩ := own_block hrow hk
            rw [KD.out] at ho
            cases ho
            cases hc)
      rw [List.length_range] at h
      exact h
    have HLI : Hid (∀ k, (Value.slice A1 m1 c1).ownBlock = some k → w.heap.size ≤ k) := fun k hk => Nat.le_trans F3.out.size (hlies k hk)
    have c11 := b11.cell 0
    simp only [List.getElem?_toArray, List.getElem?_cons_zero] at c11
    clear PF hf b11 hrow hlies hD hK
    go_wp2
    refine ⟨by simp, .inl ⟨_, _, rfl, run_takeDeferred KD.out, ?_⟩⟩
    exact ⟨_, results_tmp Tryd.results29 _ _ _, ⟨_, rfl, KO.out, JF.out.weak, fun k hk => .inr (HLI.out k hk)⟩⟩
  case stop =>
    rintro D cd pre W hD _ h
    exact h.elim
end Go.Proofs.YtfdcmjjafngonaaDoor
