/- Tree.Append (written by genTrE.py). -/
import Derived.Lib.ReflectliteSwap
import Derived.Test.YtkaghbpdnmigmaaDoorGwT
namespace Go.Proofs.YtkaghbpdnmigmaaDoor
open Go.RowKit

/-- A store into one cell of a block of the call's own. -/
theorem wpList_storeOne {P : Program} {ops : Array Oper} {rest : List Oper} {o : Oper} {a : Act} {w : World} {Q : Exit → Act → World → Prop} (hgd : o.guard = none) (ty : TypeId) (x y : Operand) (ho : o.op = .store ty x y)
    (g f : Nat) (v : Value) (hx : a.eval x = .pointer (some ⟨g, f, none⟩)) (hy : a.eval y = v) (h1 : v.oneCell' = true) (hi : (P.info? ty).map (·.size) = some 1)
    (t : TypeId) (cs cs' : Array Value) (hB : Blk w g t cs) (hf : f < cs.size) (hcs : cs.setIfInBounds f v = cs')
    (h : ∀ w', Blk w' g t cs' → Fr (fun k => k = g) w w' → wpList P ops Q rest (a.put o.dst undef) w') : wpList P ops Q (o :: rest) a w := by
  subst hcs
  obtain ⟨ie, hie, hs⟩ : ∃ ie, P.info? ty = some ie ∧ ie.size = 1 := by
    cases he : P.info? ty with
    | none => rw [he] at hi; cases hi
    | some ie => rw [he] at hi; exact ⟨ie, rfl, by simpa using hi⟩
  have hrun := Lib.rl_storeVar_one (P := P) ty ie hie hs ⟨g, f, none⟩ v (cs[f]) h1 w (by rw [hB.cell]; simp [hf]) (hB.frozen _)
  refine wpList_plain hgd fun K hK => ?_
  unfold Oper.wp execOp
  simp only [ho, hx, hy, Instr.storeAt, Instr.sureAddr, Sem.run_bind, Sem.run_pure, Result.andThen_ok, hrun]
  exact hK _ _ (h _ (hB.set_ f v) (Fr.setCell (T := fun k => k = g) (Fr.refl _ w) (fun _ => rfl) v))
theorem infoSD : (Tryd.prog.info? 29).map (·.size) = some 1 := by kernel_rfl
theorem infoMP : (Tryd.prog.info? 100).map (·.size) = some 1 := by kernel_rfl
theorem infoPart : (Tryd.prog.info? 110).map (·.size) = some 2 := by kernel_rfl

/-- The blocks of a tree. -/
def TB (p : Nat) (A : Option Addr) (n c : Nat) (mb : Option Nat) (k : Nat) : Prop := k = p ∨ mb = some k ∨ (Value.slice A n c).ownBlock = some k

theorem PartM.ne_blk {w : World} {b g : Nat} {ds : List (List UInt8)} {C : Nat → Nat → Prop} {t : TypeId} {cs : Array Value} (h : PartM w b ds C) (hB : Blk w g t cs) : b ≠ g := by
  rintro rfl
  obtain ⟨es, clock, h1, _⟩ := h
  unfold Blk at hB
  rw [h1] at hB
  cases hB
theorem PartM.ne_own {w : World} {b base n : Nat} {ds : List (List UInt8)} {C : Nat → Nat → Prop} {e : TypeId} {size : Nat} {v : Value} {xs : List Value} (h : PartM w b ds C) (hr : w.ownsRow base e size v n xs) : v.ownBlock ≠ some b := by
  intro hk
  obtain ⟨es, clock, h1, _⟩ := h
  obtain ⟨o, ho, hc⟩ := own_block hr hk
  rw [h1] at ho
  cases ho
  cases hc

/-- Inside Append: the leaf is there, the parts of a chain are being filled in. -/
structure ApS (w W : World) (p b g5 : Nat) (v : Value) (ds : List (List UInt8)) (n : Nat) (C : Nat → Nat → Prop) (lv idx : Nat) (T : Nat → Prop) : Prop where
  fr : Fr T w W
  blk : Blk W p 102 #[v, .map (some b)]
  row : W.ownsRow 0 24 32 v n (ds.flatMap digC)
  map : PartM W b ds C
  blk5 : Blk W g5 110 #[.int .i64 lv, .int .i64 idx]
section
variable {w W W' : World} {p b g5 n lv idx : Nat} {v : Value} {ds : List (List UInt8)} {C C' : Nat → Nat → Prop} {T : Nat → Prop}
theorem ApS.frS (h : ApS w W p b g5 v ds n C lv idx T) : Fr T w W := h.fr
theorem ApS.later (h : ApS w W p b g5 v ds n C lv idx T) (hf : Fr Nothing W W') : ApS w W' p b g5 v ds n C lv idx T :=
  ⟨h.fr.trans hf.weak, h.blk.fr hf (fun x => x), own_fr h.row hf (fun _ _ x => x), h.map.fr hf (fun x => x), h.blk5.fr hf (fun x => x)⟩
theorem ApS.put5 {lv' idx' : Nat} (h : ApS w W p b g5 v ds n C lv idx T) (hf : Fr (fun k => k = g5) W W') (hb : Blk W' g5 110 #[.int .i64 lv', .int .i64 idx']) (hg : w.heap.size ≤ g5) : ApS w W' p b g5 v ds n C lv' idx' T :=
  ⟨h.fr.then_ hf (fun i hi e => by have e' : i = g5 := e; omega), h.blk.fr hf (fun e => by have e' : p = g5 := e; exact Blk.ne_ h.blk h.blk5 (by decide) e'),
   own_fr h.row hf (fun k hk e => by have e' : k = g5 := e; exact own_blk_ne h.row h.blk5 (by decide) (by rw [← e']; exact hk)),
   h.map.fr hf (fun e => by have e' : b = g5 := e; exact h.map.ne_blk h.blk5 e'), hb⟩
theorem ApS.putM (h : ApS w W p b g5 v ds n C lv idx T) (hf : Fr (fun k => k = b) W W') (hM : PartM W' b ds C') (hb : b < w.heap.size → T b) : ApS w W' p b g5 v ds n C' lv idx T :=
  ⟨h.fr.then_ hf (fun i hi e => by have e' : i = b := e; rw [e'] at hi ⊢; exact hb hi), h.blk.fr hf (fun e => by have e' : p = b := e; exact h.map.ne_blk h.blk e'.symm),
   own_fr h.row hf (fun k hk e => by have e' : k = b := e; exact h.map.ne_own h.row (by rw [← e']; exact hk)), hM, h.blk5.fr hf (fun e => by have e' : g5 = b := e; exact h.map.ne_blk h.blk5 e'.symm)⟩
theorem ApS.tree {A : Option Addr} {m c : Nat} (h : ApS w W p b g5 (.slice A m c) ds m C lv idx T) (hd : ds.length = m ∧ ∀ d ∈ ds, d.length = 32) : TreeC W p A m c (some b) ds C :=
  ⟨h.blk, h.row, hd.1, hd.2, .inl ⟨b, rfl, h.map⟩⟩
end
theorem TreeC.congr {w : World} {p : Nat} {A : Option Addr} {n c : Nat} {mb : Option Nat} {ds : List (List UInt8)} {C C' : Nat → Nat → Prop} (h : TreeC w p A n c mb ds C) (hC : ∀ l i, C l i ↔ C' l i) : TreeC w p A n c mb ds C' :=
  ⟨h.blk, h.row, h.len, h.each, by
    rcases h.parts with ⟨b, hb, hp⟩ | ⟨h0, h1⟩
    · exact .inl ⟨b, hb, hp.congr hC⟩
    · exact .inr ⟨h0, fun l i hc => h1 l i ((hC l i).2 hc)⟩⟩

/-- The leaf d is appended. -/
def Appended (w : World) (p : Nat) (A : Option Addr) (n c : Nat) (mb : Option Nat) (ds : List (List UInt8)) (d : List UInt8) (e : Ending) (w' : World) : Prop :=
  e = .returned (.int .i64 0) ∧ ∃ A' c' mb', TreeC w' p A' (n + 1) c' mb' (ds ++ [d]) (partC (n + 1)) ∧ Fr (TB p A n c mb) w w' ∧ ∀ k, TB p A' (n + 1) c' mb' k → TB p A n c mb k ∨ w.heap.size ≤ k

set_option maxRecDepth 100000 in
set_option maxHeartbeats 4000000 in
theorem Append_any (p : Nat) (A : Option Addr) (n c : Nat) (mb : Option Nat) (ds : List (List UInt8)) (d : List UInt8) (w : World) (hTT : TreeC w p A n c mb ds (partC n)) (hd : d.length = 32) (hn : n < 1048576) (hS : ShaTab w) (hNS : ∀ k, k = 0 ∨ k = 1 → ¬ TB p A n c mb k) :
    Calls Tryd.prog 39 #[.pointer (some ⟨p, 0, none⟩), digV d] w (Appended w p A n c mb ds d) := by
  obtain ⟨i0, hi0, hz0, hz1, hz2⟩ := info_parts infoDp
  have HI : Hid ((Tryd.prog.info? 24).map (·.size) = some (digC d).length) := by rw [digC, List.length_map, hd]; exact infoD
  have HF : Hid (Instr.fill (fun i => some (i * 32, 32)) ((Array.range (1 * 32)).map (zero32.cells[· % zero32.cells.size]!)) [(0, .agg (digC d).toArray)] = some (digC d).toArray) := fill_one _ _ (by simp [digC, hd]) (by simp)
  have HL : Hid ((digC d).length = 32) := by simp [Hid, digC, hd]
  have HO : Hid (∀ u ∈ digC d, u.oneCell' = true) := fun u hu => oneCell_bvI d u (by simpa [digC] using hu)
  have DSE : Hid ((ds ++ [d]).length = n + 1 ∧ ∀ x ∈ ds ++ [d], x.length = 32) := by
    refine ⟨by rw [List.length_append, hTT.len]; rfl, fun x hx => ?_⟩
    rcases List.mem_append.1 hx with h | h
    · exact hTT.each x h
    · rw [List.mem_singleton.1 h]; exact hd
  have DL := Lib.hid hTT.len
  have HN : Hid (n ≤ 1048576) := Nat.le_of_lt hn
  have HS := Lib.hid hS
  have NS := Lib.hid hNS
  have OB : Hid (∀ k, (Value.slice A n c).ownBlock = some k → k < w.heap.size) := fun k hk => by
    obtain ⟨o, ho, _⟩ := own_block hTT.row hk
    exact (Array.getElem?_eq_some_iff.1 ho).1
  unfold digV
  change Calls _ _ #[_, .agg (digC d).toArray] _ _
  generalize hDV : digC d = DV at *
  have DVQ : Hid (digC d = DV) := hDV
  clear hDV
  have g1 : Hid (¬ 1 * i0.size > 2 ^ 24) := by simp only [Hid]; rw [hz1]; omega
  have g2 : Hid (¬ 1 * i0.size = 0) := by simp only [Hid]; rw [hz1]; omega
  have gf : Hid (Instr.fill (fun i => some (i * i0.size, i0.size)) ((Array.range (1 * i0.size)).map (zero32.cells[· % zero32.cells.size]!)) [(0, .agg DV.toArray)] = some DV.toArray) := by simp only [Hid]; rw [hz1]; exact HF.out
  have qT : ∀ (w : World) (r : Option Nat), (binOp .eql 100 (.map r) (.map none)).run Tryd.prog w = .ok (.bool r.isNone) w := fun w r => run_eql_map_nil w _ _ _ r Tryd.underlying100
  have tn : ((n : Int) == 1048576) = false := by rw [beq_eq_false_iff_ne]; omega
  have hn4 : n ≤ 1048576 := by omega
  clear hS hNS hd
  rcases hTT.parts with ⟨b, rfl, hM⟩ | ⟨rfl, hM⟩
  · have HB := Lib.hid hTT.blk
    have HM := Lib.hid hM
    have MBL : Hid (TB p A n c (some b) b ∨ w.heap.size ≤ b) := .inl (.inr (.inl rfl))
    have BW : Hid (b < w.heap.size → TB p A n c (some b) b) := fun _ => .inr (.inl rfl)
    obtain ⟨mb, hmb⟩ : ∃ mb, mb = some b := ⟨_, rfl⟩
    rw [← hmb] at MBL BW NS ⊢
    clear hM hmb
    go_enter Tryd.func39, Tryd.ntmps39
    go_wp2_with (refine wpList_boxBlk rfl 24 (.tmp 1) rfl _ rfl ?_)
    intro w1 n1
    have B1 := Lib.hid (hTT.blk.fr n1.fr (fun x => x))
    have R1 := Lib.hid (own_fr hTT.row n1.fr (fun _ _ x => x))
    have L1 : Hid (Blk w1 w.heap.size 24 DV.toArray) := n1.blk
    have F1 := Lib.hid n1.fr
    have S1 : Hid (w1.heap.size = w.heap.size + 1) := n1.size
    clear n1
    have c0 : w1.cell? ⟨p, 0, none⟩ = some (.slice A n c) := B1.out.cell 0
    have c1 : w1.cell? ⟨p, 1, none⟩ = some (.map (some b)) := B1.out.cell 1
    have M1 := Lib.hid (HM.out.fr F1.out (fun x => x))
    go_upto_region 7 with fail
    clear c0 c1 hTT HB HM
    obtain ⟨g3, hg3⟩ : ∃ g3, g3 = w.heap.size := ⟨_, rfl⟩
    have OB : Hid (∀ k, (Value.slice A n c).ownBlock = some k → k < g3) := by rw [hg3]; exact OB.out
    rw [← hg3] at L1 ⊢
    have GW0 : Hid (g3 = w.heap.size) := hg3
    have B7 := B1
    have R7 := R1
    have L7 := L1
    have M7 := M1
    have F7 : Hid (Fr (TB p A n c mb) w w1) := F1.out.weak
    clear B1 R1 L1 M1 F1 hg3 S1
    generalize w1 = w7 at *
    have c0 : w7.cell? ⟨p, 0, none⟩ = some (.slice A n c) := B7.out.cell 0
    go_upto_region 8 with fail
    clear c0
    have P8 : Hid ((w7.alloc (.cells #[.int .i64 0, .int .i64 n] 110)).cell? ⟨p, 0, none⟩ = some (.slice A n c)) := (B7.out.alloc _).cell 0
    have B8 := Lib.hid (B7.out.alloc (.cells #[.int .i64 0, .int .i64 n] 110))
    have R8 := Lib.hid (own_fr R7.out ((Fr.refl Nothing w7).alloc (.cells #[.int .i64 0, .int .i64 n] 110)) (fun _ _ x => x))
    have M8 := Lib.hid (M7.out.fr ((Fr.refl Nothing w7).alloc (.cells #[.int .i64 0, .int .i64 n] 110)) (fun x => x))
    have L8 := Lib.hid (L7.out.alloc (.cells #[.int .i64 0, .int .i64 n] 110))
    have F8 := Lib.hid (F7.out.alloc (.cells #[.int .i64 0, .int .i64 n] 110))
    have G8 := Lib.hid (Blk.new w7 110 #[.int .i64 0, .int .i64 n])
    have GW : Hid (w.heap.size ≤ w7.heap.size) := F7.out.size
    clear B7 R7 M7 L7 F7
    generalize w7.alloc (.cells #[.int .i64 0, .int .i64 n] 110) = w8 at *
    generalize w7.heap.size = g5 at *
    have LOW : Hid (∀ k, (Value.slice A n c).ownBlock = some k → k < w8.heap.size) := fun k hk => by
      obtain ⟨o, ho, _⟩ := own_block R8.out hk
      exact (Array.getElem?_eq_some_iff.1 ho).1
    by_cases hroom : n + 1 ≤ c
    · obtain ⟨ga, rfl, hga⟩ : ∃ ga, A = some ⟨ga, 0, none⟩ ∧ ga < g3 := by
        rcases R8.out.2 with ⟨hv, _⟩ | ⟨g', cap', cur, hv, _⟩
        · injection hv with _ _ h3
          omega
        · injection hv with h1 _ _
          subst h1
          exact ⟨g', rfl, OB.out g' rfl⟩
      have NE : Hid ((p : Nat) ≠ ga ∧ g3 ≠ ga ∧ ga < w8.heap.size) := ⟨fun e => own_blk_ne R8.out B8.out (by decide) (by rw [e]; rfl), by omega, LOW.out ga rfl⟩
      have RM := Lib.hid hroom
      clear hroom hga
      refine wp_region_st 8 (fun k => k = ga) [Is (.pointer (some ⟨p, 0, none⟩)), Is (.pointer (some ⟨p, 0, none⟩)), Is (.pointer (some ⟨p, 0, none⟩)), Is (.pointer (some ⟨p, 0, none⟩)), Is (.slice (some ⟨ga, 0, none⟩) n c), Is (.agg DV.toArray), fun v W => ∃ g, v = .slice (some ⟨g, 0, none⟩) 1 1 ∧ w8.heap.size ≤ g ∧ Blk W g 24 DV.toArray, Is (.slice (some ⟨ga, 0, none⟩) (n + 1) c)] [(7, fun W => W.ownsRow 0 24 32 (.slice (some ⟨ga, 0, none⟩) (n + 1) c) (n + 1) (ds.flatMap digC ++ DV))] (fun W => W.ownsRow 0 24 32 (.slice (some ⟨ga, 0, none⟩) n c) n (ds.flatMap digC)) (fun _ _ => false) (by kernel_rfl) (by kernel_rfl) (by kernel_rfl) (by kernel_rfl) ⟨Is.stable _, Is.stable _, Is.stable _, Is.stable _, Is.stable _, Is.stable _, fun v w' w'' _ hf ⟨g, h, l, b⟩ => ⟨g, h, l, b.fr hf (fun e => by have e' : g = ga := e; have := NE.out.2.2; omega)⟩, Is.stable _, trivial⟩ ⟨fun _ _ _ hf h => own_fr h hf (fun _ _ x => x), trivial⟩ (fun _ _ _ hf h => own_fr h hf (fun _ _ x => x)) (own_fr R8.out ((Fr.refl Nothing w8).drew) (fun _ _ x => x)) ?_ ?_
      · refine ⟨fun u w' d hf hR k1 k0 kM => ?_, fun u w' d hf hR k1 k0 kM => ?_, fun u w' d hf hR k1 k0 kM => ?_, fun u w' d hf hR k1 k0 kM => ?_, fun u w' d hf hR k1 k0 kM => ?_, fun u w' d hf hR k1 k0 kM => ?_, fun u w' d hf hR k1 k0 kM => ?_, fun u w' d hf hR k1 k0 kM => ?_, trivial⟩
        all_goals simp only [List.take_succ_cons, List.take_zero, List.map_cons, List.map_nil, puts, Act.put, List.setIfInBounds_toArray, List.set_cons_zero, List.set_cons_succ, Nat.reduceAdd, Nat.zero_add]
        · clear hR k1 k0 kM
          refine .inl ⟨by kernel_rfl, ?_⟩
          go_simp
          exact ⟨_, rfl, Fr.refl _ _, rfl, trivial⟩
        · clear hR k1 k0 kM
          refine .inl ⟨by kernel_rfl, ?_⟩
          go_simp
          exact ⟨_, rfl, Fr.refl _ _, rfl, trivial⟩
        · have h1 : u 1 = _ := hR 1 (by kernel_rfl)
          clear hR k1 k0 kM
          simp only [h1]
          refine .inl ⟨by kernel_rfl, ?_⟩
          go_simp
          exact ⟨_, rfl, Fr.refl _ _, rfl, trivial⟩
        · have h2 : u 2 = _ := hR 2 (by kernel_rfl)
          clear hR k1 k0 kM
          simp only [h2]
          refine .inl ⟨by kernel_rfl, ?_⟩
          go_simp
          exact ⟨_, rfl, Fr.refl _ _, rfl, trivial⟩
        · have h3 : u 3 = _ := hR 3 (by kernel_rfl)
          clear hR k1 k0 kM
          simp only [h3]
          refine .inl ⟨by kernel_rfl, ?_⟩
          have hc := hf.cellSome P8.out (fun e => NE.out.1 e)
          go_simp
          exact ⟨_, rfl, Fr.refl _ _, rfl, trivial⟩
        · clear hR k1 k0 kM
          refine .inl ⟨by kernel_rfl, ?_⟩
          exact wp_load_mid _ _ rfl g3 0 rfl DV _ (range_blk (L8.out.fr hf (fun e => NE.out.2.1 e))) Tryd.underlying24 rfl HI.out ⟨_, rfl, Fr.refl _ _, rfl, trivial⟩
        · have h5 : u 5 = _ := hR 5 (by kernel_rfl)
          clear hR k1 k0 kM
          simp only [h5]
          refine .inl ⟨by kernel_rfl, ?_⟩
          refine wp_buildSlice 29 24 1 #[(0, .tmp 38)] rfl DV.toArray i0 zero32 Tryd.underlying29 hi0 hz0 g1.out g2.out ?_ ?_
          · simp only [List.map_toArray, List.map_cons, List.map_nil]
            exact gf.out
          · exact ⟨_, rfl, (Fr.refl _ _).alloc _, ⟨w'.heap.size, rfl, hf.size, Blk.new _ _ _⟩, trivial⟩
        · have h4 : u 4 = _ := hR 4 (by kernel_rfl)
          obtain ⟨g6, h6, l6, b6⟩ := hR 6 (by kernel_rfl)
          clear hR
          simp only [h4, h6]
          refine .inl ⟨by kernel_rfl, ?_⟩
          have hN : w'.ownsRow 0 24 32 (.slice (some ⟨ga, 0, none⟩) n c) n (ds.flatMap digC) := by rw [stage, if_neg (by rw [k0 7 (by kernel_rfl)]; exact Bool.false_ne_true)] at kM; exact kM
          clear k1 k0 kM
          refine wp_appD_room (.tmp 37) (.tmp 39) rfl ga n c _ rfl hN RM.out ⟨g6, 0, none⟩ 1 DV rfl HL.out (fun j u hu => by rw [Addr.add_mid, Nat.zero_add, b6.cell, List.getElem?_toArray]; exact hu) HO.out ?_
          intro w'' hf2 hown
          exact ⟨_, rfl, hf2, rfl, hown⟩
      · intro u w' hf hR kM
        have h7 : u 7 = _ := hR 7 (by omega)
        have h0 : u 0 = _ := hR 0 (by omega)
        have kR : w'.ownsRow 0 24 32 (.slice (some ⟨ga, 0, none⟩) (n + 1) c) (n + 1) (ds.flatMap digC ++ DV) := kM
        have B9 := Lib.hid (B8.out.fr hf (fun e => NE.out.1 e))
        have M9 := Lib.hid (M8.out.fr hf (fun e => by have e' : b = ga := e; exact M8.out.ne_own R8.out (by rw [e']; rfl)))
        have G9 := Lib.hid (G8.out.fr hf (fun e => by have e' : g5 = ga := e; exact own_blk_ne R8.out G8.out (by decide) (by rw [e']; rfl)))
        have R9 := Lib.hid kR
        have F9 : Hid (Fr (TB p (some ⟨ga, 0, none⟩) n c mb) w w') := F8.out.trans (hf.mono (fun i _ e => .inr (.inr (by have e' : i = ga := e; rw [e']; rfl))))
        have LOW9 : Hid (∀ k, (Value.slice (some ⟨ga, 0, none⟩) (n + 1) c).ownBlock = some k → TB p (some ⟨ga, 0, none⟩) n c mb k ∨ w.heap.size ≤ k) := fun k hk => .inl (.inr (.inr hk))
        clear hR kM kR hf P8 B8 R8 M8 L8 F8 G8 LOW
        obtain ⟨A', hA'⟩ : ∃ A', A' = some (⟨ga, 0, none⟩ : Addr) := ⟨_, rfl⟩
        obtain ⟨c', hc'⟩ : ∃ c', c' = c := ⟨_, rfl⟩
        have R9' : Hid (w'.ownsRow 0 24 32 (.slice A' (n + 1) c') (n + 1) (ds.flatMap digC ++ DV)) := by rw [hA', hc']; exact R9.out
        have LOW9' : Hid (∀ k, (Value.slice A' (n + 1) c').ownBlock = some k → TB p (some ⟨ga, 0, none⟩) n c mb k ∨ w.heap.size ≤ k) := by rw [hA', hc']; exact LOW9.out
        rw [← hA', ← hc'] at h7
        clear R9 LOW9 hA' hc'
        simp only [List.take_succ_cons, List.take_zero, List.map_cons, List.map_nil, puts, Act.put, List.setIfInBounds_toArray, List.set_cons_zero, List.set_cons_succ, List.drop_succ_cons, List.drop_zero, Nat.reduceAdd, Nat.zero_add, h0, h7]
        generalize w' = w9 at *
        go_wp2_with (refine wpList_storeOne rfl 29 (.tmp 42) _ rfl p 0 (.slice A' (n + 1) c') rfl rfl rfl infoSD 102 #[.slice (some ⟨ga, 0, none⟩) n c, .map (some b)] #[.slice A' (n + 1) c', .map (some b)] B9.out (show 0 < 2 by decide) rfl ?_)
        intro w10 b10 f10
        have AP : Hid (ApS w w10 p b g5 (.slice A' (n + 1) c') (ds ++ [d]) (n + 1) (chainC n 0) 0 n (TB p (some ⟨ga, 0, none⟩) n c mb)) :=
          ⟨F9.out.trans (f10.mono (fun i _ e => .inl e)), b10, own_fr (by rw [List.flatMap_append, List.flatMap_singleton, DVQ.out]; exact R9'.out) f10 (fun k hk e => by have e' : k = p := e; exact own_blk_ne R9'.out B9.out (by decide) (by rw [← e']; exact hk)),
           ((M9.out.fr f10 (fun e => by have e' : b = p := e; exact M9.out.ne_blk B9.out e')).more d (fun l i h => by rw [DL.out]; exact h.2)).congr (chain_start n), G9.out.fr f10 (fun e => by have e' : g5 = p := e; exact Blk.ne_ G9.out B9.out (by decide) e')⟩
        clear b10 f10 B9 M9 G9 F9 R9'
        generalize w10 = wS at *
        go_wp2
        go_loopw [43] (fun _ wr => ∃ lv idx : Nat, (idx + 1) * 2 ^ lv = n + 1 ∧ ApS w wr p b g5 (.slice A' (n + 1) c') (ds ++ [d]) (n + 1) (chainC n lv) lv idx (TB p (some ⟨ga, 0, none⟩) n c mb)) (fun _ wr => (intOf ((wr.cell? ⟨g5, 1, none⟩).getD undef)).toNat)
        case atStart => exact ⟨0, n, by simp, AP.out⟩
        case round =>
          obtain ⟨lv, idx, he, hA⟩ := hrel
          have HA := Lib.hid hA
          have HE := Lib.hid he
          have p1 : 1 ≤ 2 ^ lv := Nat.one_le_two_pow
          have hil : (idx + 1) * 1 ≤ (idx + 1) * 2 ^ lv := Nat.mul_le_mul_left _ p1
          have hi4 : idx ≤ 1048576 := by have := HN.out; omega
          have hl4 : lv ≤ 64 := by
            rcases Nat.lt_or_ge 64 lv with h | h
            · have h1 : 2 ^ 64 ≤ 2 ^ lv := Nat.pow_le_pow_right (by omega) (by omega)
              have h2 : 1 * 2 ^ lv ≤ (idx + 1) * 2 ^ lv := Nat.mul_le_mul_right _ (by omega)
              have := HN.out
              omega
            · exact h
          have c50 : wr.cell? ⟨g5, 0, none⟩ = some (.int .i64 lv) := hA.blk5.cell 0
          have c51 : wr.cell? ⟨g5, 1, none⟩ = some (.int .i64 idx) := hA.blk5.cell 1
          clear hA he AP
          by_cases hodd : idx % 2 = 1
          · obtain ⟨q, hq⟩ : ∃ q, idx = 2 * q + 1 := ⟨idx / 2, by omega⟩
            obtain ⟨k2, hk2⟩ : ∃ k2, k2 = 2 * q := ⟨_, rfl⟩
            have a1 : (idx : Int).tmod 2 = 1 := by rw [Int.tmod_eq_emod_of_nonneg (by omega)]; omega
            have a2 : (idx : Int) % 2 = 1 := by omega
            have a3 : (idx : Int) - 1 = (k2 : Int) := by omega
            have a4 : (idx : Int).tdiv 2 = (q : Int) := by rw [Int.tdiv_eq_ediv_of_nonneg (by omega)]; omega
            have a5 : (idx : Int) / 2 = (q : Int) := by omega
            have a6 : idx / 2 = q := by omega
            obtain ⟨l1, hl1⟩ : ∃ l1, l1 = lv + 1 := ⟨_, rfl⟩
            have a7 : (lv : Int) + 1 = (l1 : Int) := by omega
            have a8 : l1 ≤ 65 := by omega
            have HL1 : Hid (l1 = lv + 1) := hl1
            have w6 : IntKind.i64.wrap (q : Int) = (q : Int) := IntWalk.i64_in _ (by omega)
            have HQ : Hid (idx = 2 * q + 1 ∧ k2 = 2 * q) := ⟨hq, hk2⟩
            have e2 : (q + 1) * 2 ^ (lv + 1) = n + 1 := by rw [← HE.out, show idx + 1 = 2 * (q + 1) by omega, Nat.pow_succ, Nat.mul_comm (2 ^ lv) 2, ← Nat.mul_assoc, Nat.mul_comm (q + 1) 2]
            have E2 := Lib.hid e2
            have e3 : (k2 + 1) * 2 ^ lv ≤ n := by
              have h1 : (idx + 1) * 2 ^ lv = idx * 2 ^ lv + 2 ^ lv := by rw [Nat.add_mul, Nat.one_mul]
              have h2 : (k2 + 1) = idx := by omega
              rw [h2]
              have := HE.out
              omega
            have CL : Hid (∀ w', Fr Nothing wr w' → Calls Tryd.prog 66 #[.pointer (some ⟨p, 0, none⟩), .agg #[.int .i64 (lv : Int), .int .i64 (k2 : Int)]] w' (Same' w' (digV (partR (ds ++ [d]) lv k2)))) :=
              fun w' hf => complete_any p A' (n + 1) c' (some b) (ds ++ [d]) (chainC n lv) lv k2 w' ((HA.out.tree DSE.out).fr0 hf) (by omega) (fun h => ⟨h, .inl e3⟩) hl4 (by have := HN.out; omega)
            have CR : Hid (∀ w', Fr Nothing wr w' → Calls Tryd.prog 66 #[.pointer (some ⟨p, 0, none⟩), .agg #[.int .i64 (lv : Int), .int .i64 (idx : Int)]] w' (Same' w' (digV (partR (ds ++ [d]) lv idx)))) :=
              fun w' hf => complete_any p A' (n + 1) c' (some b) (ds ++ [d]) (chainC n lv) lv idx w' ((HA.out.tree DSE.out).fr0 hf) (by have := HE.out; omega) (fun h => ⟨h, .inr ⟨HE.out, Nat.le_refl _⟩⟩) hl4 (by have := HN.out; omega)
            have ll : (partR (ds ++ [d]) lv k2).length = 32 := partR_length _ DSE.out.2 lv k2 (by rw [DSE.out.1]; omega)
            have lr : (partR (ds ++ [d]) lv idx).length = 32 := partR_length _ DSE.out.2 lv idx (by rw [DSE.out.1]; have := HE.out; omega)
            have CN : Hid (∀ w', Fr (TB p (some ⟨ga, 0, none⟩) n c mb) w w' → Calls Tryd.prog 17 #[digV (partR (ds ++ [d]) lv k2), digV (partR (ds ++ [d]) lv idx)] w' (Same' w' (digV (nodeD (partR (ds ++ [d]) lv k2) (partR (ds ++ [d]) lv idx))))) := fun w' hf => Node_any _ _ ll lr w' (HS.out.fr hf (NS.out _ (.inl rfl)) (NS.out _ (.inr rfl)))
            have NVE : Hid (Value.agg (digC (nodeD (partR (ds ++ [d]) lv k2) (partR (ds ++ [d]) lv idx))).toArray = digV (partR (ds ++ [d]) l1 q)) := by
              have : partR (ds ++ [d]) l1 q = nodeD (partR (ds ++ [d]) lv k2) (partR (ds ++ [d]) lv idx) := by rw [hl1, hq, hk2]; rfl
              rw [this]
              rfl
            have DLV : Hid (Dig (digC (partR (ds ++ [d]) lv k2)).toArray) := Dig.of ll
            have DRV : Hid (Dig (digC (partR (ds ++ [d]) lv idx)).toArray) := Dig.of lr
            have ILV : Hid ((Tryd.prog.info? 24).map (·.size) = some (digC (partR (ds ++ [d]) lv k2)).length) := by rw [digC, List.length_map, ll]; exact infoD
            have IRV : Hid ((Tryd.prog.info? 24).map (·.size) = some (digC (partR (ds ++ [d]) lv idx)).length) := by rw [digC, List.length_map, lr]; exact infoD
            unfold digV at CL CR CN
            simp only [show ∀ l : List UInt8, l.map bvI = digC l from fun _ => rfl] at CL CR CN
            generalize digC (nodeD (partR (ds ++ [d]) lv k2) (partR (ds ++ [d]) lv idx)) = NV at *
            generalize digC (partR (ds ++ [d]) lv k2) = LV at *
            generalize digC (partR (ds ++ [d]) lv idx) = RV at *
            clear hq hk2 hl1 e2 e3 ll lr hil p1
            go_wp2_with fail
            refine (CL.out _ (Fr.refl _ _)).mono ?_
            rintro e wa ⟨rfl, fa⟩
            have HA1 := Lib.hid (HA.out.later fa)
            have Fa := Lib.hid fa
            clear fa c50 c51
            go_wp2_with (refine wpList_allocBlk rfl 24 rfl zero32 zvD zero32c rfl ?_)
            intro wb nb
            have Nb := Lib.hid nb
            clear nb
            generalize hg6 : wa.heap.size = g6 at *
            have HG6 := Lib.hid hg6
            clear hg6
            go_wp2_with (refine wpList_storeBlk rfl 24 (.tmp 6) _ rfl g6 LV.toArray rfl rfl _ _ (by have h := Nb.out.blk; rw [HG6.out] at h; exact h) DLV.out.info DLV.out.zero DLV.out.one ?_)
            intro wc bc fc
            have J6c := Lib.hid bc
            have Fc : Hid (Fr Nothing wa wc) := Nb.out.fr.then_ fc (fun i hi e => by have e' : i = g6 := e; have := HG6.out; omega)
            have HA2 := Lib.hid (HA1.out.later Fc.out)
            clear bc fc Nb HA1
            have c50 : wc.cell? ⟨g5, 0, none⟩ = some (.int .i64 lv) := HA2.out.blk5.cell 0
            have c51 : wc.cell? ⟨g5, 1, none⟩ = some (.int .i64 idx) := HA2.out.blk5.cell 1
            go_wp2_with fail
            refine (CR.out _ (Fa.out.trans Fc.out)).mono ?_
            rintro e wd ⟨rfl, fd⟩
            have HA3 := Lib.hid (HA2.out.later fd)
            have J6d := Lib.hid (J6c.out.fr fd (fun x => x))
            clear fd c50 c51 HA2 J6c Fa Fc CL CR HG6
            go_wp2_with (refine wpList_allocBlk rfl 24 rfl zero32 zvD zero32c rfl ?_)
            intro we ne
            have Ne := Lib.hid ne
            clear ne
            generalize hg7 : wd.heap.size = g7 at *
            have HG7 := Lib.hid hg7
            clear hg7
            have L67 : Hid (g6 < g7) := by have := J6d.out.lt; have := HG7.out; simp only [Hid]; omega
            go_wp2_with (refine wpList_storeBlk rfl 24 (.tmp 7) _ rfl g7 RV.toArray rfl rfl _ _ (by have h := Ne.out.blk; rw [HG7.out] at h; exact h) DRV.out.info DRV.out.zero DRV.out.one ?_)
            intro wf bf ff
            have J7f := Lib.hid bf
            have Ff : Hid (Fr Nothing wd wf) := Ne.out.fr.then_ ff (fun i hi e => by have e' : i = g7 := e; have := HG7.out; omega)
            have HA4 := Lib.hid (HA3.out.later Ff.out)
            have J6f := Lib.hid (J6d.out.fr Ff.out (fun x => x))
            clear bf ff Ne HA3 J6d Ff HG7
            have c50 : wf.cell? ⟨g5, 0, none⟩ = some (.int .i64 lv) := HA4.out.blk5.cell 0
            have c51 : wf.cell? ⟨g5, 1, none⟩ = some (.int .i64 idx) := HA4.out.blk5.cell 1
            have O5 : Hid ((#[Value.int .i64 (l1 : Int), Value.int .i64 (q : Int)] : Array Value).all (·.oneCell') = true) := by simp [Hid, Value.oneCell']
            go_wp2_with (refine wpList_storeBlk rfl 110 (.tmp 5) _ rfl g5 #[.int .i64 (l1 : Int), .int .i64 (q : Int)] rfl rfl _ _ HA4.out.blk5 infoPart rfl O5.out ?_)
            intro wg bg fg
            have H13 := Lib.hid (HA4.out.put5 fg bg GW.out)
            have J6 := Lib.hid (J6f.out.fr fg (fun e => by have e' : g6 = g5 := e; exact Blk.ne_ J6f.out HA4.out.blk5 (by decide) e'))
            have J7 := Lib.hid (J7f.out.fr fg (fun e => by have e' : g7 = g5 := e; exact Blk.ne_ J7f.out HA4.out.blk5 (by decide) e'))
            clear O5 bg fg HA4 J6f J7f c50 c51
            have K0 : Hid (wg.cell? ⟨g5, 0, none⟩ = some (.int .i64 (l1 : Int))) := H13.out.blk5.cell 0
            have K1 : Hid (wg.cell? ⟨g5, 1, none⟩ = some (.int .i64 q)) := H13.out.blk5.cell 1
            have M1 : Hid (wg.cell? ⟨p, 1, none⟩ = some (.map (some b))) := H13.out.blk.cell 1
            clear a1 a2 a3 a4 a5 a6 a7 a8 w6
            go_upto_region 13 with fail
            refine wp_region_st 8 Nothing [Is (.pointer (some ⟨p, 0, none⟩)), Is (.pointer (some ⟨p, 0, none⟩)), Is (.pointer (some ⟨p, 1, none⟩)), Is (.map (some b)), Is (keyV l1 q), Is (.agg LV.toArray), Is (.agg RV.toArray), Is (.agg NV.toArray)] [] (fun _ => True) (fun _ _ => false) (by kernel_rfl) (by kernel_rfl) (by kernel_rfl) (by kernel_rfl) ⟨Is.stable _, Is.stable _, Is.stable _, Is.stable _, Is.stable _, Is.stable _, Is.stable _, Is.stable _, trivial⟩ trivial (fun _ _ _ _ h => h) trivial ?_ ?_
            · refine ⟨fun u w' d hf hR k1 k0 kM => ?_, fun u w' d hf hR k1 k0 kM => ?_, fun u w' d hf hR k1 k0 kM => ?_, fun u w' d hf hR k1 k0 kM => ?_, fun u w' d hf hR k1 k0 kM => ?_, fun u w' d hf hR k1 k0 kM => ?_, fun u w' d hf hR k1 k0 kM => ?_, fun u w' d hf hR k1 k0 kM => ?_, trivial⟩
              all_goals simp only [List.take_succ_cons, List.take_zero, List.map_cons, List.map_nil, puts, Act.put, List.setIfInBounds_toArray, List.set_cons_zero, List.set_cons_succ, Nat.reduceAdd, Nat.zero_add]
              · clear hR k1 k0 kM
                refine .inl ⟨by kernel_rfl, ?_⟩
                go_simp
                exact ⟨_, rfl, Fr.refl _ _, rfl, trivial⟩
              · have h0 : u 0 = _ := hR 0 (by kernel_rfl)
                clear hR k1 k0 kM
                simp only [h0]
                refine .inl ⟨by kernel_rfl, ?_⟩
                go_simp
                exact ⟨_, rfl, Fr.refl _ _, rfl, trivial⟩
              · have h1 : u 1 = _ := hR 1 (by kernel_rfl)
                clear hR k1 k0 kM
                simp only [h1]
                refine .inl ⟨by kernel_rfl, ?_⟩
                go_simp
                exact ⟨_, rfl, Fr.refl _ _, rfl, trivial⟩
              · have h2 : u 2 = _ := hR 2 (by kernel_rfl)
                clear hR k1 k0 kM
                simp only [h2]
                refine .inl ⟨by kernel_rfl, ?_⟩
                have hc := hf.cellSome M1.out (fun x => x)
                go_simp
                exact ⟨_, rfl, Fr.refl _ _, rfl, trivial⟩
              · clear hR k1 k0 kM
                refine .inl ⟨by kernel_rfl, ?_⟩
                have hc := hf.cellSome K0.out (fun x => x)
                have hc2 := hf.cellSome K1.out (fun x => x)
                go_simp
                exact ⟨_, rfl, Fr.refl _ _, rfl, trivial⟩
              · clear hR k1 k0 kM
                refine .inl ⟨by kernel_rfl, ?_⟩
                exact wp_load_mid _ _ rfl g6 0 rfl LV _ (range_blk (J6.out.fr hf (fun x => x))) Tryd.underlying24 rfl ILV.out ⟨_, rfl, Fr.refl _ _, rfl, trivial⟩
              · clear hR k1 k0 kM
                refine .inl ⟨by kernel_rfl, ?_⟩
                exact wp_load_mid _ _ rfl g7 0 rfl RV _ (range_blk (J7.out.fr hf (fun x => x))) Tryd.underlying24 rfl IRV.out ⟨_, rfl, Fr.refl _ _, rfl, trivial⟩
              · have h5 : u 5 = _ := hR 5 (by kernel_rfl)
                have h6 : u 6 = _ := hR 6 (by kernel_rfl)
                clear hR k1 k0 kM
                simp only [h5, h6]
                refine .inl ⟨by kernel_rfl, ?_⟩
                go_simp
                refine (CN.out _ (H13.out.frS.trans hf.weak)).mono ?_
                rintro e w4 ⟨rfl, f4⟩
                exact ⟨_, rfl, f4.weak, rfl, trivial⟩
            · intro u w' hf hR kM
              have h3 : u 3 = _ := hR 3 (by omega)
              have h4 : u 4 = _ := hR 4 (by omega)
              have h7 : u 7 = _ := hR 7 (by omega)
              have H14 := Lib.hid (H13.out.later hf)
              clear hR kM hf K0 K1 M1 J6 J7 H13
              simp only [List.take_succ_cons, List.take_zero, List.map_cons, List.map_nil, puts, Act.put, List.setIfInBounds_toArray, List.set_cons_zero, List.set_cons_succ, List.drop_succ_cons, List.drop_zero, Nat.reduceAdd, Nat.zero_add, h3, h4, h7]
              refine wpList_updateP rfl (.tmp 68) (.tmp 69) (.tmp 72) rfl H14.out.map l1 q rfl rfl rfl (by rw [HL1.out]; exact chain_new n lv q E2.out) NVE.out (chainC n l1) (fun l i => by rw [HL1.out]; exact chain_step n lv q l i E2.out) ?_
              intro wz hPz fz
              have HZ := Lib.hid (H14.out.putM fz hPz BW.out)
              clear hPz fz H14
              simp only [Act.put]
              go_wp2
              go_roundw
              case rel => exact ⟨l1, q, by rw [HL1.out]; exact E2.out, HZ.out⟩
              case measure =>
                have k1 : wz.cell? ⟨g5, 1, none⟩ = some (.int .i64 q) := HZ.out.blk5.cell 1
                have k2 : wr.cell? ⟨g5, 1, none⟩ = some (.int .i64 idx) := HA.out.blk5.cell 1
                have := HQ.out
                rw [k1, k2]
                simp [intOf]
                omega
          · have a1 : (idx : Int).tmod 2 = 0 := by rw [Int.tmod_eq_emod_of_nonneg (by omega)]; omega
            have a2 : (idx : Int) % 2 = 0 := by omega
            have ZE : Hid (∀ l i, chainC n lv l i ↔ partC (n + 1) l i) := fun l i => chain_end n lv idx HE.out (by omega) l i
            go_wp2
            go_ret
            exact ⟨rfl, A', c', some b, (HA.out.tree DSE.out).congr ZE.out, HA.out.fr, fun k hk => by
              rcases hk with h | h | h
              · exact .inl (.inl h)
              · have e : b = k := Option.some.inj h
                rw [← e]
                exact MBL.out
              · exact LOW9'.out k h⟩
    · have RM := Lib.hid hroom
      clear hroom
      refine wp_region_st 8 Nothing [Is (.pointer (some ⟨p, 0, none⟩)), Is (.pointer (some ⟨p, 0, none⟩)), Is (.pointer (some ⟨p, 0, none⟩)), Is (.pointer (some ⟨p, 0, none⟩)), Is (.slice A n c), Is (.agg DV.toArray), fun v W => ∃ g, v = .slice (some ⟨g, 0, none⟩) 1 1 ∧ w8.heap.size ≤ g ∧ Blk W g 24 DV.toArray, fun v W => ∃ g cap, v = .slice (some ⟨g, 0, none⟩) (n + 1) cap ∧ w8.heap.size ≤ g ∧ W.ownsRow 0 24 32 v (n + 1) (ds.flatMap digC ++ DV)] [] (fun _ => True) (fun _ _ => false) (by kernel_rfl) (by kernel_rfl) (by kernel_rfl) (by kernel_rfl) ⟨Is.stable _, Is.stable _, Is.stable _, Is.stable _, Is.stable _, Is.stable _, fun v w' w'' _ hf ⟨g, h, l, b⟩ => ⟨g, h, l, b.fr hf (fun x => x)⟩, fun v w' w'' _ hf ⟨g, cap, h, l, b⟩ => ⟨g, cap, h, l, own_fr b hf (fun _ _ x => x)⟩, trivial⟩ trivial (fun _ _ _ _ h => h) trivial ?_ ?_
      · refine ⟨fun u w' d hf hR k1 k0 kM => ?_, fun u w' d hf hR k1 k0 kM => ?_, fun u w' d hf hR k1 k0 kM => ?_, fun u w' d hf hR k1 k0 kM => ?_, fun u w' d hf hR k1 k0 kM => ?_, fun u w' d hf hR k1 k0 kM => ?_, fun u w' d hf hR k1 k0 kM => ?_, fun u w' d hf hR k1 k0 kM => ?_, trivial⟩
        all_goals simp only [List.take_succ_cons, List.take_zero, List.map_cons, List.map_nil, puts, Act.put, List.setIfInBounds_toArray, List.set_cons_zero, List.set_cons_succ, Nat.reduceAdd, Nat.zero_add]
        · clear hR k1 k0 kM
          refine .inl ⟨by kernel_rfl, ?_⟩
          go_simp
          exact ⟨_, rfl, Fr.refl _ _, rfl, trivial⟩
        · clear hR k1 k0 kM
          refine .inl ⟨by kernel_rfl, ?_⟩
          go_simp
          exact ⟨_, rfl, Fr.refl _ _, rfl, trivial⟩
        · have h1 : u 1 = _ := hR 1 (by kernel_rfl)
          clear hR k1 k0 kM
          simp only [h1]
          refine .inl ⟨by kernel_rfl, ?_⟩
          go_simp
          exact ⟨_, rfl, Fr.refl _ _, rfl, trivial⟩
        · have h2 : u 2 = _ := hR 2 (by kernel_rfl)
          clear hR k1 k0 kM
          simp only [h2]
          refine .inl ⟨by kernel_rfl, ?_⟩
          go_simp
          exact ⟨_, rfl, Fr.refl _ _, rfl, trivial⟩
        · have h3 : u 3 = _ := hR 3 (by kernel_rfl)
          clear hR k1 k0 kM
          simp only [h3]
          refine .inl ⟨by kernel_rfl, ?_⟩
          have hc := hf.cellSome P8.out (fun x => x)
          go_simp
          exact ⟨_, rfl, Fr.refl _ _, rfl, trivial⟩
        · clear hR k1 k0 kM
          refine .inl ⟨by kernel_rfl, ?_⟩
          exact wp_load_mid _ _ rfl g3 0 rfl DV _ (range_blk (L8.out.fr hf (fun x => x))) Tryd.underlying24 rfl HI.out ⟨_, rfl, Fr.refl _ _, rfl, trivial⟩
        · have h5 : u 5 = _ := hR 5 (by kernel_rfl)
          clear hR k1 k0 kM
          simp only [h5]
          refine .inl ⟨by kernel_rfl, ?_⟩
          refine wp_buildSlice 29 24 1 #[(0, .tmp 38)] rfl DV.toArray i0 zero32 Tryd.underlying29 hi0 hz0 g1.out g2.out ?_ ?_
          · simp only [List.map_toArray, List.map_cons, List.map_nil]
            exact gf.out
          · exact ⟨_, rfl, (Fr.refl _ _).alloc _, ⟨w'.heap.size, rfl, hf.size, Blk.new _ _ _⟩, trivial⟩
        · have h4 : u 4 = _ := hR 4 (by kernel_rfl)
          obtain ⟨g6, h6, l6, b6⟩ := hR 6 (by kernel_rfl)
          clear hR k1 k0 kM
          simp only [h4, h6]
          refine .inl ⟨by kernel_rfl, ?_⟩
          refine wp_appD_new (.tmp 37) (.tmp 39) rfl A n c _ rfl (own_fr R8.out hf (fun _ _ x => x)) RM.out HN.out ⟨g6, 0, none⟩ 1 DV rfl HL.out (fun j u hu => by rw [Addr.add_mid, Nat.zero_add, b6.cell, List.getElem?_toArray]; exact hu) HO.out ?_
          intro g cap w'' hf2 hg hown
          exact ⟨_, rfl, hf2, ⟨g, cap, rfl, Nat.le_trans hf.size hg, hown⟩, trivial⟩
      · intro u w' hf hR kM
        obtain ⟨gn, c', h7, hgn, kR⟩ := hR 7 (by omega)
        have h0 : u 0 = _ := hR 0 (by omega)
        rw [h7] at kR
        have B9 := Lib.hid (B8.out.fr hf (fun x => x))
        have M9 := Lib.hid (M8.out.fr hf (fun x => x))
        have G9 := Lib.hid (G8.out.fr hf (fun x => x))
        have F9 : Hid (Fr (TB p A n c mb) w w') := F8.out.trans hf.weak
        have hw8 := F8.out.size
        obtain ⟨A', hA'⟩ : ∃ A', A' = some (⟨gn, 0, none⟩ : Addr) := ⟨_, rfl⟩
        have R9' : Hid (w'.ownsRow 0 24 32 (.slice A' (n + 1) c') (n + 1) (ds.flatMap digC ++ DV)) := by rw [hA']; exact kR
        have LOW9' : Hid (∀ k, (Value.slice A' (n + 1) c').ownBlock = some k → TB p A n c mb k ∨ w.heap.size ≤ k) := by
          rw [hA']
          intro k hk
          have : gn = k := by simpa [Value.ownBlock] using hk
          exact .inr (by omega)
        rw [← hA'] at h7
        clear hR kM kR hf P8 B8 R8 M8 L8 F8 G8 LOW hw8 hA' hgn
        simp only [List.take_succ_cons, List.take_zero, List.map_cons, List.map_nil, puts, Act.put, List.setIfInBounds_toArray, List.set_cons_zero, List.set_cons_succ, List.drop_succ_cons, List.drop_zero, Nat.reduceAdd, Nat.zero_add, h0, h7]
        generalize w' = w9 at *
        go_wp2_with (refine wpList_storeOne rfl 29 (.tmp 42) _ rfl p 0 (.slice A' (n + 1) c') rfl rfl rfl infoSD 102 #[.slice A n c, .map (some b)] #[.slice A' (n + 1) c', .map (some b)] B9.out (show 0 < 2 by decide) rfl ?_)
        intro w10 b10 f10
        have AP : Hid (ApS w w10 p b g5 (.slice A' (n + 1) c') (ds ++ [d]) (n + 1) (chainC n 0) 0 n (TB p A n c mb)) :=
          ⟨F9.out.trans (f10.mono (fun i _ e => .inl e)), b10, own_fr (by rw [List.flatMap_append, List.flatMap_singleton, DVQ.out]; exact R9'.out) f10 (fun k hk e => by have e' : k = p := e; exact own_blk_ne R9'.out B9.out (by decide) (by rw [← e']; exact hk)),
           ((M9.out.fr f10 (fun e => by have e' : b = p := e; exact M9.out.ne_blk B9.out e')).more d (fun l i h => by rw [DL.out]; exact h.2)).congr (chain_start n), G9.out.fr f10 (fun e => by have e' : g5 = p := e; exact Blk.ne_ G9.out B9.out (by decide) e')⟩
        clear b10 f10 B9 M9 G9 F9 R9'
        generalize w10 = wS at *
        go_wp2
        go_loopw [43] (fun _ wr => ∃ lv idx : Nat, (idx + 1) * 2 ^ lv = n + 1 ∧ ApS w wr p b g5 (.slice A' (n + 1) c') (ds ++ [d]) (n + 1) (chainC n lv) lv idx (TB p A n c mb)) (fun _ wr => (intOf ((wr.cell? ⟨g5, 1, none⟩).getD undef)).toNat)
        case atStart => exact ⟨0, n, by simp, AP.out⟩
        case round =>
          obtain ⟨lv, idx, he, hA⟩ := hrel
          have HA := Lib.hid hA
          have HE := Lib.hid he
          have p1 : 1 ≤ 2 ^ lv := Nat.one_le_two_pow
          have hil : (idx + 1) * 1 ≤ (idx + 1) * 2 ^ lv := Nat.mul_le_mul_left _ p1
          have hi4 : idx ≤ 1048576 := by have := HN.out; omega
          have hl4 : lv ≤ 64 := by
            rcases Nat.lt_or_ge 64 lv with h | h
            · have h1 : 2 ^ 64 ≤ 2 ^ lv := Nat.pow_le_pow_right (by omega) (by omega)
              have h2 : 1 * 2 ^ lv ≤ (idx + 1) * 2 ^ lv := Nat.mul_le_mul_right _ (by omega)
              have := HN.out
              omega
            · exact h
          have c50 : wr.cell? ⟨g5, 0, none⟩ = some (.int .i64 lv) := hA.blk5.cell 0
          have c51 : wr.cell? ⟨g5, 1, none⟩ = some (.int .i64 idx) := hA.blk5.cell 1
          clear hA he AP
          by_cases hodd : idx % 2 = 1
          · obtain ⟨q, hq⟩ : ∃ q, idx = 2 * q + 1 := ⟨idx / 2, by omega⟩
            obtain ⟨k2, hk2⟩ : ∃ k2, k2 = 2 * q := ⟨_, rfl⟩
            have a1 : (idx : Int).tmod 2 = 1 := by rw [Int.tmod_eq_emod_of_nonneg (by omega)]; omega
            have a2 : (idx : Int) % 2 = 1 := by omega
            have a3 : (idx : Int) - 1 = (k2 : Int) := by omega
            have a4 : (idx : Int).tdiv 2 = (q : Int) := by rw [Int.tdiv_eq_ediv_of_nonneg (by omega)]; omega
            have a5 : (idx : Int) / 2 = (q : Int) := by omega
            have a6 : idx / 2 = q := by omega
            obtain ⟨l1, hl1⟩ : ∃ l1, l1 = lv + 1 := ⟨_, rfl⟩
            have a7 : (lv : Int) + 1 = (l1 : Int) := by omega
            have a8 : l1 ≤ 65 := by omega
            have HL1 : Hid (l1 = lv + 1) := hl1
            have w6 : IntKind.i64.wrap (q : Int) = (q : Int) := IntWalk.i64_in _ (by omega)
            have HQ : Hid (idx = 2 * q + 1 ∧ k2 = 2 * q) := ⟨hq, hk2⟩
            have e2 : (q + 1) * 2 ^ (lv + 1) = n + 1 := by rw [← HE.out, show idx + 1 = 2 * (q + 1) by omega, Nat.pow_succ, Nat.mul_comm (2 ^ lv) 2, ← Nat.mul_assoc, Nat.mul_comm (q + 1) 2]
            have E2 := Lib.hid e2
            have e3 : (k2 + 1) * 2 ^ lv ≤ n := by
              have h1 : (idx + 1) * 2 ^ lv = idx * 2 ^ lv + 2 ^ lv := by rw [Nat.add_mul, Nat.one_mul]
              have h2 : (k2 + 1) = idx := by omega
              rw [h2]
              have := HE.out
              omega
            have CL : Hid (∀ w', Fr Nothing wr w' → Calls Tryd.prog 66 #[.pointer (some ⟨p, 0, none⟩), .agg #[.int .i64 (lv : Int), .int .i64 (k2 : Int)]] w' (Same' w' (digV (partR (ds ++ [d]) lv k2)))) :=
              fun w' hf => complete_any p A' (n + 1) c' (some b) (ds ++ [d]) (chainC n lv) lv k2 w' ((HA.out.tree DSE.out).fr0 hf) (by omega) (fun h => ⟨h, .inl e3⟩) hl4 (by have := HN.out; omega)
            have CR : Hid (∀ w', Fr Nothing wr w' → Calls Tryd.prog 66 #[.pointer (some ⟨p, 0, none⟩), .agg #[.int .i64 (lv : Int), .int .i64 (idx : Int)]] w' (Same' w' (digV (partR (ds ++ [d]) lv idx)))) :=
              fun w' hf => complete_any p A' (n + 1) c' (some b) (ds ++ [d]) (chainC n lv) lv idx w' ((HA.out.tree DSE.out).fr0 hf) (by have := HE.out; omega) (fun h => ⟨h, .inr ⟨HE.out, Nat.le_refl _⟩⟩) hl4 (by have := HN.out; omega)
            have ll : (partR (ds ++ [d]) lv k2).length = 32 := partR_length _ DSE.out.2 lv k2 (by rw [DSE.out.1]; omega)
            have lr : (partR (ds ++ [d]) lv idx).length = 32 := partR_length _ DSE.out.2 lv idx (by rw [DSE.out.1]; have := HE.out; omega)
            have CN : Hid (∀ w', Fr (TB p A n c mb) w w' → Calls Tryd.prog 17 #[digV (partR (ds ++ [d]) lv k2), digV (partR (ds ++ [d]) lv idx)] w' (Same' w' (digV (nodeD (partR (ds ++ [d]) lv k2) (partR (ds ++ [d]) lv idx))))) := fun w' hf => Node_any _ _ ll lr w' (HS.out.fr hf (NS.out _ (.inl rfl)) (NS.out _ (.inr rfl)))
            have NVE : Hid (Value.agg (digC (nodeD (partR (ds ++ [d]) lv k2) (partR (ds ++ [d]) lv idx))).toArray = digV (partR (ds ++ [d]) l1 q)) := by
              have : partR (ds ++ [d]) l1 q = nodeD (partR (ds ++ [d]) lv k2) (partR (ds ++ [d]) lv idx) := by rw [hl1, hq, hk2]; rfl
              rw [this]
              rfl
            have DLV : Hid (Dig (digC (partR (ds ++ [d]) lv k2)).toArray) := Dig.of ll
            have DRV : Hid (Dig (digC (partR (ds ++ [d]) lv idx)).toArray) := Dig.of lr
            have ILV : Hid ((Tryd.prog.info? 24).map (·.size) = some (digC (partR (ds ++ [d]) lv k2)).length) := by rw [digC, List.length_map, ll]; exact infoD
            have IRV : Hid ((Tryd.prog.info? 24).map (·.size) = some (digC (partR (ds ++ [d]) lv idx)).length) := by rw [digC, List.length_map, lr]; exact infoD
            unfold digV at CL CR CN
            simp only [show ∀ l : List UInt8, l.map bvI = digC l from fun _ => rfl] at CL CR CN
            generalize digC (nodeD (partR (ds ++ [d]) lv k2) (partR (ds ++ [d]) lv idx)) = NV at *
            generalize digC (partR (ds ++ [d]) lv k2) = LV at *
            generalize digC (partR (ds ++ [d]) lv idx) = RV at *
            clear hq hk2 hl1 e2 e3 ll lr hil p1
            go_wp2_with fail
            refine (CL.out _ (Fr.refl _ _)).mono ?_
            rintro e wa ⟨rfl, fa⟩
            have HA1 := Lib.hid (HA.out.later fa)
            have Fa := Lib.hid fa
            clear fa c50 c51
            go_wp2_with (refine wpList_allocBlk rfl 24 rfl zero32 zvD zero32c rfl ?_)
            intro wb nb
            have Nb := Lib.hid nb
            clear nb
            generalize hg6 : wa.heap.size = g6 at *
            have HG6 := Lib.hid hg6
            clear hg6
            go_wp2_with (refine wpList_storeBlk rfl 24 (.tmp 6) _ rfl g6 LV.toArray rfl rfl _ _ (by have h := Nb.out.blk; rw [HG6.out] at h; exact h) DLV.out.info DLV.out.zero DLV.out.one ?_)
            intro wc bc fc
            have J6c := Lib.hid bc
            have Fc : Hid (Fr Nothing wa wc) := Nb.out.fr.then_ fc (fun i hi e => by have e' : i = g6 := e; have := HG6.out; omega)
            have HA2 := Lib.hid (HA1.out.later Fc.out)
            clear bc fc Nb HA1
            have c50 : wc.cell? ⟨g5, 0, none⟩ = some (.int .i64 lv) := HA2.out.blk5.cell 0
            have c51 : wc.cell? ⟨g5, 1, none⟩ = some (.int .i64 idx) := HA2.out.blk5.cell 1
            go_wp2_with fail
            refine (CR.out _ (Fa.out.trans Fc.out)).mono ?_
            rintro e wd ⟨rfl, fd⟩
            have HA3 := Lib.hid (HA2.out.later fd)
            have J6d := Lib.hid (J6c.out.fr fd (fun x => x))
            clear fd c50 c51 HA2 J6c Fa Fc CL CR HG6
            go_wp2_with (refine wpList_allocBlk rfl 24 rfl zero32 zvD zero32c rfl ?_)
            intro we ne
            have Ne := Lib.hid ne
            clear ne
            generalize hg7 : wd.heap.size = g7 at *
            have HG7 := Lib.hid hg7
            clear hg7
            have L67 : Hid (g6 < g7) := by have := J6d.out.lt; have := HG7.out; simp only [Hid]; omega
            go_wp2_with (refine wpList_storeBlk rfl 24 (.tmp 7) _ rfl g7 RV.toArray rfl rfl _ _ (by have h := Ne.out.blk; rw [HG7.out] at h; exact h) DRV.out.info DRV.out.zero DRV.out.one ?_)
            intro wf bf ff
            have J7f := Lib.hid bf
            have Ff : Hid (Fr Nothing wd wf) := Ne.out.fr.then_ ff (fun i hi e => by have e' : i = g7 := e; have := HG7.out; omega)
            have HA4 := Lib.hid (HA3.out.later Ff.out)
            have J6f := Lib.hid (J6d.out.fr Ff.out (fun x => x))
            clear bf ff Ne HA3 J6d Ff HG7
            have c50 : wf.cell? ⟨g5, 0, none⟩ = some (.int .i64 lv) := HA4.out.blk5.cell 0
            have c51 : wf.cell? ⟨g5, 1, none⟩ = some (.int .i64 idx) := HA4.out.blk5.cell 1
            have O5 : Hid ((#[Value.int .i64 (l1 : Int), Value.int .i64 (q : Int)] : Array Value).all (·.oneCell') = true) := by simp [Hid, Value.oneCell']
            go_wp2_with (refine wpList_storeBlk rfl 110 (.tmp 5) _ rfl g5 #[.int .i64 (l1 : Int), .int .i64 (q : Int)] rfl rfl _ _ HA4.out.blk5 infoPart rfl O5.out ?_)
            intro wg bg fg
            have H13 := Lib.hid (HA4.out.put5 fg bg GW.out)
            have J6 := Lib.hid (J6f.out.fr fg (fun e => by have e' : g6 = g5 := e; exact Blk.ne_ J6f.out HA4.out.blk5 (by decide) e'))
            have J7 := Lib.hid (J7f.out.fr fg (fun e => by have e' : g7 = g5 := e; exact Blk.ne_ J7f.out HA4.out.blk5 (by decide) e'))
            clear O5 bg fg HA4 J6f J7f c50 c51
            have K0 : Hid (wg.cell? ⟨g5, 0, none⟩ = some (.int .i64 (l1 : Int))) := H13.out.blk5.cell 0
            have K1 : Hid (wg.cell? ⟨g5, 1, none⟩ = some (.int .i64 q)) := H13.out.blk5.cell 1
            have M1 : Hid (wg.cell? ⟨p, 1, none⟩ = some (.map (some b))) := H13.out.blk.cell 1
            clear a1 a2 a3 a4 a5 a6 a7 a8 w6
            go_upto_region 13 with fail
            refine wp_region_st 8 Nothing [Is (.pointer (some ⟨p, 0, none⟩)), Is (.pointer (some ⟨p, 0, none⟩)), Is (.pointer (some ⟨p, 1, none⟩)), Is (.map (some b)), Is (keyV l1 q), Is (.agg LV.toArray), Is (.agg RV.toArray), Is (.agg NV.toArray)] [] (fun _ => True) (fun _ _ => false) (by kernel_rfl) (by kernel_rfl) (by kernel_rfl) (by kernel_rfl) ⟨Is.stable _, Is.stable _, Is.stable _, Is.stable _, Is.stable _, Is.stable _, Is.stable _, Is.stable _, trivial⟩ trivial (fun _ _ _ _ h => h) trivial ?_ ?_
            · refine ⟨fun u w' d hf hR k1 k0 kM => ?_, fun u w' d hf hR k1 k0 kM => ?_, fun u w' d hf hR k1 k0 kM => ?_, fun u w' d hf hR k1 k0 kM => ?_, fun u w' d hf hR k1 k0 kM => ?_, fun u w' d hf hR k1 k0 kM => ?_, fun u w' d hf hR k1 k0 kM => ?_, fun u w' d hf hR k1 k0 kM => ?_, trivial⟩
              all_goals simp only [List.take_succ_cons, List.take_zero, List.map_cons, List.map_nil, puts, Act.put, List.setIfInBounds_toArray, List.set_cons_zero, List.set_cons_succ, Nat.reduceAdd, Nat.zero_add]
              · clear hR k1 k0 kM
                refine .inl ⟨by kernel_rfl, ?_⟩
                go_simp
                exact ⟨_, rfl, Fr.refl _ _, rfl, trivial⟩
              · have h0 : u 0 = _ := hR 0 (by kernel_rfl)
                clear hR k1 k0 kM
                simp only [h0]
                refine .inl ⟨by kernel_rfl, ?_⟩
                go_simp
                exact ⟨_, rfl, Fr.refl _ _, rfl, trivial⟩
              · have h1 : u 1 = _ := hR 1 (by kernel_rfl)
                clear hR k1 k0 kM
                simp only [h1]
                refine .inl ⟨by kernel_rfl, ?_⟩
                go_simp
                exact ⟨_, rfl, Fr.refl _ _, rfl, trivial⟩
              · have h2 : u 2 = _ := hR 2 (by kernel_rfl)
                clear hR k1 k0 kM
                simp only [h2]
                refine .inl ⟨by kernel_rfl, ?_⟩
                have hc := hf.cellSome M1.out (fun x => x)
                go_simp
                exact ⟨_, rfl, Fr.refl _ _, rfl, trivial⟩
              · clear hR k1 k0 kM
                refine .inl ⟨by kernel_rfl, ?_⟩
                have hc := hf.cellSome K0.out (fun x => x)
                have hc2 := hf.cellSome K1.out (fun x => x)
                go_simp
                exact ⟨_, rfl, Fr.refl _ _, rfl, trivial⟩
              · clear hR k1 k0 kM
                refine .inl ⟨by kernel_rfl, ?_⟩
                exact wp_load_mid _ _ rfl g6 0 rfl LV _ (range_blk (J6.out.fr hf (fun x => x))) Tryd.underlying24 rfl ILV.out ⟨_, rfl, Fr.refl _ _, rfl, trivial⟩
              · clear hR k1 k0 kM
                refine .inl ⟨by kernel_rfl, ?_⟩
                exact wp_load_mid _ _ rfl g7 0 rfl RV _ (range_blk (J7.out.fr hf (fun x => x))) Tryd.underlying24 rfl IRV.out ⟨_, rfl, Fr.refl _ _, rfl, trivial⟩
              · have h5 : u 5 = _ := hR 5 (by kernel_rfl)
                have h6 : u 6 = _ := hR 6 (by kernel_rfl)
                clear hR k1 k0 kM
                simp only [h5, h6]
                refine .inl ⟨by kernel_rfl, ?_⟩
                go_simp
                refine (CN.out _ (H13.out.frS.trans hf.weak)).mono ?_
                rintro e w4 ⟨rfl, f4⟩
                exact ⟨_, rfl, f4.weak, rfl, trivial⟩
            · intro u w' hf hR kM
              have h3 : u 3 = _ := hR 3 (by omega)
              have h4 : u 4 = _ := hR 4 (by omega)
              have h7 : u 7 = _ := hR 7 (by omega)
              have H14 := Lib.hid (H13.out.later hf)
              clear hR kM hf K0 K1 M1 J6 J7 H13
              simp only [List.take_succ_cons, List.take_zero, List.map_cons, List.map_nil, puts, Act.put, List.setIfInBounds_toArray, List.set_cons_zero, List.set_cons_succ, List.drop_succ_cons, List.drop_zero, Nat.reduceAdd, Nat.zero_add, h3, h4, h7]
              refine wpList_updateP rfl (.tmp 68) (.tmp 69) (.tmp 72) rfl H14.out.map l1 q rfl rfl rfl (by rw [HL1.out]; exact chain_new n lv q E2.out) NVE.out (chainC n l1) (fun l i => by rw [HL1.out]; exact chain_step n lv q l i E2.out) ?_
              intro wz hPz fz
              have HZ := Lib.hid (H14.out.putM fz hPz BW.out)
              clear hPz fz H14
              simp only [Act.put]
              go_wp2
              go_roundw
              case rel => exact ⟨l1, q, by rw [HL1.out]; exact E2.out, HZ.out⟩
              case measure =>
                have k1 : wz.cell? ⟨g5, 1, none⟩ = some (.int .i64 q) := HZ.out.blk5.cell 1
                have k2 : wr.cell? ⟨g5, 1, none⟩ = some (.int .i64 idx) := HA.out.blk5.cell 1
                have := HQ.out
                rw [k1, k2]
                simp [intOf]
                omega
          · have a1 : (idx : Int).tmod 2 = 0 := by rw [Int.tmod_eq_emod_of_nonneg (by omega)]; omega
            have a2 : (idx : Int) % 2 = 0 := by omega
            have ZE : Hid (∀ l i, chainC n lv l i ↔ partC (n + 1) l i) := fun l i => chain_end n lv idx HE.out (by omega) l i
            go_wp2
            go_ret
            exact ⟨rfl, A', c', some b, (HA.out.tree DSE.out).congr ZE.out, HA.out.fr, fun k hk => by
              rcases hk with h | h | h
              · exact .inl (.inl h)
              · have e : b = k := Option.some.inj h
                rw [← e]
                exact MBL.out
              · exact LOW9'.out k h⟩
  · have HB := Lib.hid hTT.blk
    have HM := Lib.hid hM
    clear hM
    go_enter Tryd.func39, Tryd.ntmps39
    go_wp2_with (refine wpList_boxBlk rfl 24 (.tmp 1) rfl _ rfl ?_)
    intro w1 n1
    have B1 := Lib.hid (hTT.blk.fr n1.fr (fun x => x))
    have R1 := Lib.hid (own_fr hTT.row n1.fr (fun _ _ x => x))
    have L1 : Hid (Blk w1 w.heap.size 24 DV.toArray) := n1.blk
    have F1 := Lib.hid n1.fr
    have S1 : Hid (w1.heap.size = w.heap.size + 1) := n1.size
    clear n1
    have c0 : w1.cell? ⟨p, 0, none⟩ = some (.slice A n c) := B1.out.cell 0
    have c1 : w1.cell? ⟨p, 1, none⟩ = some (.map none) := B1.out.cell 1
    have PL : Hid (p < w.heap.size) := hTT.blk.lt
    clear hTT
    go_wp2_with (refine wpList_makeMap rfl 100 rfl ?_)
    intro w2 n2
    have N2 := Lib.hid n2
    clear n2 c0 c1
    have B2 := Lib.hid (B1.out.fr N2.out.fr (fun x => x))
    have c0 : w2.cell? ⟨p, 0, none⟩ = some (.slice A n c) := B2.out.cell 0
    have c1 : w2.cell? ⟨p, 1, none⟩ = some (.map none) := B2.out.cell 1
    generalize hb : w1.heap.size = b at *
    have HBB := Lib.hid hb
    clear hb
    go_wp2_with (refine wpList_storeOne rfl 100 (.tmp 26) _ rfl p 1 (.map (some b)) rfl rfl rfl infoMP 102 #[.slice A n c, .map none] #[.slice A n c, .map (some b)] B2.out (show 1 < 2 by decide) rfl ?_)
    intro w3 b3 f3
    have B7 := Lib.hid b3
    have R7 := Lib.hid (own_fr (own_fr R1.out N2.out.fr (fun _ _ x => x)) f3 (fun k hk e => by have e' : k = p := e; exact own_blk_ne R1.out B1.out (by decide) (by rw [← e']; exact hk)))
    have L7 := Lib.hid ((L1.out.fr N2.out.fr (fun x => x)).fr f3 (fun e => by have e' : w.heap.size = p := e; have := PL.out; omega))
    have M7 : Hid (PartM w3 b ds (partC n)) := by
      refine ⟨#[], 0, ?_, fun e he => (by simp at he), fun l i h => absurd h (HM.out l i), Stamp.empty _⟩
      have h := N2.out.map
      rw [HBB.out] at h
      exact (f3.block b (Array.getElem?_eq_some_iff.1 h).1 (fun e => by have e' : b = p := e; have := PL.out; have := S1.out; have := HBB.out; omega)).trans h
    have F7 : Hid (Fr (TB p A n c none) w w3) := ((F1.out.trans N2.out.fr).weak).trans (f3.mono (fun i _ e => .inl e))
    have MBL : Hid (TB p A n c none b ∨ w.heap.size ≤ b) := .inr (by have := S1.out; have := HBB.out; omega)
    have BW : Hid (b < w.heap.size → TB p A n c none b) := fun h => by have := S1.out; have := HBB.out; omega
    clear c0 c1 b3 f3 B1 B2 R1 L1 HB HM N2 F1
    go_upto_region 7 with fail
    obtain ⟨g3, hg3⟩ : ∃ g3, g3 = w.heap.size := ⟨_, rfl⟩
    have OB : Hid (∀ k, (Value.slice A n c).ownBlock = some k → k < g3) := by rw [hg3]; exact OB.out
    rw [← hg3] at L7 ⊢
    have GW0 : Hid (g3 = w.heap.size) := hg3
    clear hg3 S1 HBB PL
    generalize w3 = w7 at *
    have c0 : w7.cell? ⟨p, 0, none⟩ = some (.slice A n c) := B7.out.cell 0
    go_upto_region 8 with fail
    clear c0
    have P8 : Hid ((w7.alloc (.cells #[.int .i64 0, .int .i64 n] 110)).cell? ⟨p, 0, none⟩ = some (.slice A n c)) := (B7.out.alloc _).cell 0
    have B8 := Lib.hid (B7.out.alloc (.cells #[.int .i64 0, .int .i64 n] 110))
    have R8 := Lib.hid (own_fr R7.out ((Fr.refl Nothing w7).alloc (.cells #[.int .i64 0, .int .i64 n] 110)) (fun _ _ x => x))
    have M8 := Lib.hid (M7.out.fr ((Fr.refl Nothing w7).alloc (.cells #[.int .i64 0, .int .i64 n] 110)) (fun x => x))
    have L8 := Lib.hid (L7.out.alloc (.cells #[.int .i64 0, .int .i64 n] 110))
    have F8 := Lib.hid (F7.out.alloc (.cells #[.int .i64 0, .int .i64 n] 110))
    have G8 := Lib.hid (Blk.new w7 110 #[.int .i64 0, .int .i64 n])
    have GW : Hid (w.heap.size ≤ w7.heap.size) := F7.out.size
    clear B7 R7 M7 L7 F7
    generalize w7.alloc (.cells #[.int .i64 0, .int .i64 n] 110) = w8 at *
    generalize w7.heap.size = g5 at *
    have LOW : Hid (∀ k, (Value.slice A n c).ownBlock = some k → k < w8.heap.size) := fun k hk => by
      obtain ⟨o, ho, _⟩ := own_block R8.out hk
      exact (Array.getElem?_eq_some_iff.1 ho).1
    by_cases hroom : n + 1 ≤ c
    · obtain ⟨ga, rfl, hga⟩ : ∃ ga, A = some ⟨ga, 0, none⟩ ∧ ga < g3 := by
        rcases R8.out.2 with ⟨hv, _⟩ | ⟨g', cap', cur, hv, _⟩
        · injection hv with _ _ h3
          omega
        · injection hv with h1 _ _
          subst h1
          exact ⟨g', rfl, OB.out g' rfl⟩
      have NE : Hid ((p : Nat) ≠ ga ∧ g3 ≠ ga ∧ ga < w8.heap.size) := ⟨fun e => own_blk_ne R8.out B8.out (by decide) (by rw [e]; rfl), by omega, LOW.out ga rfl⟩
      have RM := Lib.hid hroom
      clear hroom hga
      refine wp_region_st 8 (fun k => k = ga) [Is (.pointer (some ⟨p, 0, none⟩)), Is (.pointer (some ⟨p, 0, none⟩)), Is (.pointer (some ⟨p, 0, none⟩)), Is (.pointer (some ⟨p, 0, none⟩)), Is (.slice (some ⟨ga, 0, none⟩) n c), Is (.agg DV.toArray), fun v W => ∃ g, v = .slice (some ⟨g, 0, none⟩) 1 1 ∧ w8.heap.size ≤ g ∧ Blk W g 24 DV.toArray, Is (.slice (some ⟨ga, 0, none⟩) (n + 1) c)] [(7, fun W => W.ownsRow 0 24 32 (.slice (some ⟨ga, 0, none⟩) (n + 1) c) (n + 1) (ds.flatMap digC ++ DV))] (fun W => W.ownsRow 0 24 32 (.slice (some ⟨ga, 0, none⟩) n c) n (ds.flatMap digC)) (fun _ _ => false) (by kernel_rfl) (by kernel_rfl) (by kernel_rfl) (by kernel_rfl) ⟨Is.stable _, Is.stable _, Is.stable _, Is.stable _, Is.stable _, Is.stable _, fun v w' w'' _ hf ⟨g, h, l, b⟩ => ⟨g, h, l, b.fr hf (fun e => by have e' : g = ga := e; have := NE.out.2.2; omega)⟩, Is.stable _, trivial⟩ ⟨fun _ _ _ hf h => own_fr h hf (fun _ _ x => x), trivial⟩ (fun _ _ _ hf h => own_fr h hf (fun _ _ x => x)) (own_fr R8.out ((Fr.refl Nothing w8).drew) (fun _ _ x => x)) ?_ ?_
      · refine ⟨fun u w' d hf hR k1 k0 kM => ?_, fun u w' d hf hR k1 k0 kM => ?_, fun u w' d hf hR k1 k0 kM => ?_, fun u w' d hf hR k1 k0 kM => ?_, fun u w' d hf hR k1 k0 kM => ?_, fun u w' d hf hR k1 k0 kM => ?_, fun u w' d hf hR k1 k0 kM => ?_, fun u w' d hf hR k1 k0 kM => ?_, trivial⟩
        all_goals simp only [List.take_succ_cons, List.take_zero, List.map_cons, List.map_nil, puts, Act.put, List.setIfInBounds_toArray, List.set_cons_zero, List.set_cons_succ, Nat.reduceAdd, Nat.zero_add]
        · clear hR k1 k0 kM
          refine .inl ⟨by kernel_rfl, ?_⟩
          go_simp
          exact ⟨_, rfl, Fr.refl _ _, rfl, trivial⟩
        · clear hR k1 k0 kM
          refine .inl ⟨by kernel_rfl, ?_⟩
          go_simp
          exact ⟨_, rfl, Fr.refl _ _, rfl, trivial⟩
        · have h1 : u 1 = _ := hR 1 (by kernel_rfl)
          clear hR k1 k0 kM
          simp only [h1]
          refine .inl ⟨by kernel_rfl, ?_⟩
          go_simp
          exact ⟨_, rfl, Fr.refl _ _, rfl, trivial⟩
        · have h2 : u 2 = _ := hR 2 (by kernel_rfl)
          clear hR k1 k0 kM
          simp only [h2]
          refine .inl ⟨by kernel_rfl, ?_⟩
          go_simp
          exact ⟨_, rfl, Fr.refl _ _, rfl, trivial⟩
        · have h3 : u 3 = _ := hR 3 (by kernel_rfl)
          clear hR k1 k0 kM
          simp only [h3]
          refine .inl ⟨by kernel_rfl, ?_⟩
          have hc := hf.cellSome P8.out (fun e => NE.out.1 e)
          go_simp
          exact ⟨_, rfl, Fr.refl _ _, rfl, trivial⟩
        · clear hR k1 k0 kM
          refine .inl ⟨by kernel_rfl, ?_⟩
          exact wp_load_mid _ _ rfl g3 0 rfl DV _ (range_blk (L8.out.fr hf (fun e => NE.out.2.1 e))) Tryd.underlying24 rfl HI.out ⟨_, rfl, Fr.refl _ _, rfl, trivial⟩
        · have h5 : u 5 = _ := hR 5 (by kernel_rfl)
          clear hR k1 k0 kM
          simp only [h5]
          refine .inl ⟨by kernel_rfl, ?_⟩
          refine wp_buildSlice 29 24 1 #[(0, .tmp 38)] rfl DV.toArray i0 zero32 Tryd.underlying29 hi0 hz0 g1.out g2.out ?_ ?_
          · simp only [List.map_toArray, List.map_cons, List.map_nil]
            exact gf.out
          · exact ⟨_, rfl, (Fr.refl _ _).alloc _, ⟨w'.heap.size, rfl, hf.size, Blk.new _ _ _⟩, trivial⟩
        · have h4 : u 4 = _ := hR 4 (by kernel_rfl)
          obtain ⟨g6, h6, l6, b6⟩ := hR 6 (by kernel_rfl)
          clear hR
          simp only [h4, h6]
          refine .inl ⟨by kernel_rfl, ?_⟩
          have hN : w'.ownsRow 0 24 32 (.slice (some ⟨ga, 0, none⟩) n c) n (ds.flatMap digC) := by rw [stage, if_neg (by rw [k0 7 (by kernel_rfl)]; exact Bool.false_ne_true)] at kM; exact kM
          clear k1 k0 kM
          refine wp_appD_room (.tmp 37) (.tmp 39) rfl ga n c _ rfl hN RM.out ⟨g6, 0, none⟩ 1 DV rfl HL.out (fun j u hu => by rw [Addr.add_mid, Nat.zero_add, b6.cell, List.getElem?_toArray]; exact hu) HO.out ?_
          intro w'' hf2 hown
          exact ⟨_, rfl, hf2, rfl, hown⟩
      · intro u w' hf hR kM
        have h7 : u 7 = _ := hR 7 (by omega)
        have h0 : u 0 = _ := hR 0 (by omega)
        have kR : w'.ownsRow 0 24 32 (.slice (some ⟨ga, 0, none⟩) (n + 1) c) (n + 1) (ds.flatMap digC ++ DV) := kM
        have B9 := Lib.hid (B8.out.fr hf (fun e => NE.out.1 e))
        have M9 := Lib.hid (M8.out.fr hf (fun e => by have e' : b = ga := e; exact M8.out.ne_own R8.out (by rw [e']; rfl)))
        have G9 := Lib.hid (G8.out.fr hf (fun e => by have e' : g5 = ga := e; exact own_blk_ne R8.out G8.out (by decide) (by rw [e']; rfl)))
        have R9 := Lib.hid kR
        have F9 : Hid (Fr (TB p (some ⟨ga, 0, none⟩) n c none) w w') := F8.out.trans (hf.mono (fun i _ e => .inr (.inr (by have e' : i = ga := e; rw [e']; rfl))))
        have LOW9 : Hid (∀ k, (Value.slice (some ⟨ga, 0, none⟩) (n + 1) c).ownBlock = some k → TB p (some ⟨ga, 0, none⟩) n c none k ∨ w.heap.size ≤ k) := fun k hk => .inl (.inr (.inr hk))
        clear hR kM kR hf P8 B8 R8 M8 L8 F8 G8 LOW
        obtain ⟨A', hA'⟩ : ∃ A', A' = some (⟨ga, 0, none⟩ : Addr) := ⟨_, rfl⟩
        obtain ⟨c', hc'⟩ : ∃ c', c' = c := ⟨_, rfl⟩
        have R9' : Hid (w'.ownsRow 0 24 32 (.slice A' (n + 1) c') (n + 1) (ds.flatMap digC ++ DV)) := by rw [hA', hc']; exact R9.out
        have LOW9' : Hid (∀ k, (Value.slice A' (n + 1) c').ownBlock = some k → TB p (some ⟨ga, 0, none⟩) n c none k ∨ w.heap.size ≤ k) := by rw [hA', hc']; exact LOW9.out
        rw [← hA', ← hc'] at h7
        clear R9 LOW9 hA' hc'
        simp only [List.take_succ_cons, List.take_zero, List.map_cons, List.map_nil, puts, Act.put, List.setIfInBounds_toArray, List.set_cons_zero, List.set_cons_succ, List.drop_succ_cons, List.drop_zero, Nat.reduceAdd, Nat.zero_add, h0, h7]
        generalize w' = w9 at *
        go_wp2_with (refine wpList_storeOne rfl 29 (.tmp 42) _ rfl p 0 (.slice A' (n + 1) c') rfl rfl rfl infoSD 102 #[.slice (some ⟨ga, 0, none⟩) n c, .map (some b)] #[.slice A' (n + 1) c', .map (some b)] B9.out (show 0 < 2 by decide) rfl ?_)
        intro w10 b10 f10
        have AP : Hid (ApS w w10 p b g5 (.slice A' (n + 1) c') (ds ++ [d]) (n + 1) (chainC n 0) 0 n (TB p (some ⟨ga, 0, none⟩) n c none)) :=
          ⟨F9.out.trans (f10.mono (fun i _ e => .inl e)), b10, own_fr (by rw [List.flatMap_append, List.flatMap_singleton, DVQ.out]; exact R9'.out) f10 (fun k hk e => by have e' : k = p := e; exact own_blk_ne R9'.out B9.out (by decide) (by rw [← e']; exact hk)),
           ((M9.out.fr f10 (fun e => by have e' : b = p := e; exact M9.out.ne_blk B9.out e')).more d (fun l i h => by rw [DL.out]; exact h.2)).congr (chain_start n), G9.out.fr f10 (fun e => by have e' : g5 = p := e; exact Blk.ne_ G9.out B9.out (by decide) e')⟩
        clear b10 f10 B9 M9 G9 F9 R9'
        generalize w10 = wS at *
        go_wp2
        go_loopw [43] (fun _ wr => ∃ lv idx : Nat, (idx + 1) * 2 ^ lv = n + 1 ∧ ApS w wr p b g5 (.slice A' (n + 1) c') (ds ++ [d]) (n + 1) (chainC n lv) lv idx (TB p (some ⟨ga, 0, none⟩) n c none)) (fun _ wr => (intOf ((wr.cell? ⟨g5, 1, none⟩).getD undef)).toNat)
        case atStart => exact ⟨0, n, by simp, AP.out⟩
        case round =>
          obtain ⟨lv, idx, he, hA⟩ := hrel
          have HA := Lib.hid hA
          have HE := Lib.hid he
          have p1 : 1 ≤ 2 ^ lv := Nat.one_le_two_pow
          have hil : (idx + 1) * 1 ≤ (idx + 1) * 2 ^ lv := Nat.mul_le_mul_left _ p1
          have hi4 : idx ≤ 1048576 := by have := HN.out; omega
          have hl4 : lv ≤ 64 := by
            rcases Nat.lt_or_ge 64 lv with h | h
            · have h1 : 2 ^ 64 ≤ 2 ^ lv := Nat.pow_le_pow_right (by omega) (by omega)
              have h2 : 1 * 2 ^ lv ≤ (idx + 1) * 2 ^ lv := Nat.mul_le_mul_right _ (by omega)
              have := HN.out
              omega
            · exact h
          have c50 : wr.cell? ⟨g5, 0, none⟩ = some (.int .i64 lv) := hA.blk5.cell 0
          have c51 : wr.cell? ⟨g5, 1, none⟩ = some (.int .i64 idx) := hA.blk5.cell 1
          clear hA he AP
          by_cases hodd : idx % 2 = 1
          · obtain ⟨q, hq⟩ : ∃ q, idx = 2 * q + 1 := ⟨idx / 2, by omega⟩
            obtain ⟨k2, hk2⟩ : ∃ k2, k2 = 2 * q := ⟨_, rfl⟩
            have a1 : (idx : Int).tmod 2 = 1 := by rw [Int.tmod_eq_emod_of_nonneg (by omega)]; omega
            have a2 : (idx : Int) % 2 = 1 := by omega
            have a3 : (idx : Int) - 1 = (k2 : Int) := by omega
            have a4 : (idx : Int).tdiv 2 = (q : Int) := by rw [Int.tdiv_eq_ediv_of_nonneg (by omega)]; omega
            have a5 : (idx : Int) / 2 = (q : Int) := by omega
            have a6 : idx / 2 = q := by omega
            obtain ⟨l1, hl1⟩ : ∃ l1, l1 = lv + 1 := ⟨_, rfl⟩
            have a7 : (lv : Int) + 1 = (l1 : Int) := by omega
            have a8 : l1 ≤ 65 := by omega
            have HL1 : Hid (l1 = lv + 1) := hl1
            have w6 : IntKind.i64.wrap (q : Int) = (q : Int) := IntWalk.i64_in _ (by omega)
            have HQ : Hid (idx = 2 * q + 1 ∧ k2 = 2 * q) := ⟨hq, hk2⟩
            have e2 : (q + 1) * 2 ^ (lv + 1) = n + 1 := by rw [← HE.out, show idx + 1 = 2 * (q + 1) by omega, Nat.pow_succ, Nat.mul_comm (2 ^ lv) 2, ← Nat.mul_assoc, Nat.mul_comm (q + 1) 2]
            have E2 := Lib.hid e2
            have e3 : (k2 + 1) * 2 ^ lv ≤ n := by
              have h1 : (idx + 1) * 2 ^ lv = idx * 2 ^ lv + 2 ^ lv := by rw [Nat.add_mul, Nat.one_mul]
              have h2 : (k2 + 1) = idx := by omega
              rw [h2]
              have := HE.out
              omega
            have CL : Hid (∀ w', Fr Nothing wr w' → Calls Tryd.prog 66 #[.pointer (some ⟨p, 0, none⟩), .agg #[.int .i64 (lv : Int), .int .i64 (k2 : Int)]] w' (Same' w' (digV (partR (ds ++ [d]) lv k2)))) :=
              fun w' hf => complete_any p A' (n + 1) c' (some b) (ds ++ [d]) (chainC n lv) lv k2 w' ((HA.out.tree DSE.out).fr0 hf) (by omega) (fun h => ⟨h, .inl e3⟩) hl4 (by have := HN.out; omega)
            have CR : Hid (∀ w', Fr Nothing wr w' → Calls Tryd.prog 66 #[.pointer (some ⟨p, 0, none⟩), .agg #[.int .i64 (lv : Int), .int .i64 (idx : Int)]] w' (Same' w' (digV (partR (ds ++ [d]) lv idx)))) :=
              fun w' hf => complete_any p A' (n + 1) c' (some b) (ds ++ [d]) (chainC n lv) lv idx w' ((HA.out.tree DSE.out).fr0 hf) (by have := HE.out; omega) (fun h => ⟨h, .inr ⟨HE.out, Nat.le_refl _⟩⟩) hl4 (by have := HN.out; omega)
            have ll : (partR (ds ++ [d]) lv k2).length = 32 := partR_length _ DSE.out.2 lv k2 (by rw [DSE.out.1]; omega)
            have lr : (partR (ds ++ [d]) lv idx).length = 32 := partR_length _ DSE.out.2 lv idx (by rw [DSE.out.1]; have := HE.out; omega)
            have CN : Hid (∀ w', Fr (TB p (some ⟨ga, 0, none⟩) n c none) w w' → Calls Tryd.prog 17 #[digV (partR (ds ++ [d]) lv k2), digV (partR (ds ++ [d]) lv idx)] w' (Same' w' (digV (nodeD (partR (ds ++ [d]) lv k2) (partR (ds ++ [d]) lv idx))))) := fun w' hf => Node_any _ _ ll lr w' (HS.out.fr hf (NS.out _ (.inl rfl)) (NS.out _ (.inr rfl)))
            have NVE : Hid (Value.agg (digC (nodeD (partR (ds ++ [d]) lv k2) (partR (ds ++ [d]) lv idx))).toArray = digV (partR (ds ++ [d]) l1 q)) := by
              have : partR (ds ++ [d]) l1 q = nodeD (partR (ds ++ [d]) lv k2) (partR (ds ++ [d]) lv idx) := by rw [hl1, hq, hk2]; rfl
              rw [this]
              rfl
            have DLV : Hid (Dig (digC (partR (ds ++ [d]) lv k2)).toArray) := Dig.of ll
            have DRV : Hid (Dig (digC (partR (ds ++ [d]) lv idx)).toArray) := Dig.of lr
            have ILV : Hid ((Tryd.prog.info? 24).map (·.size) = some (digC (partR (ds ++ [d]) lv k2)).length) := by rw [digC, List.length_map, ll]; exact infoD
            have IRV : Hid ((Tryd.prog.info? 24).map (·.size) = some (digC (partR (ds ++ [d]) lv idx)).length) := by rw [digC, List.length_map, lr]; exact infoD
            unfold digV at CL CR CN
            simp only [show ∀ l : List UInt8, l.map bvI = digC l from fun _ => rfl] at CL CR CN
            generalize digC (nodeD (partR (ds ++ [d]) lv k2) (partR (ds ++ [d]) lv idx)) = NV at *
            generalize digC (partR (ds ++ [d]) lv k2) = LV at *
            generalize digC (partR (ds ++ [d]) lv idx) = RV at *
            clear hq hk2 hl1 e2 e3 ll lr hil p1
            go_wp2_with fail
            refine (CL.out _ (Fr.refl _ _)).mono ?_
            rintro e wa ⟨rfl, fa⟩
            have HA1 := Lib.hid (HA.out.later fa)
            have Fa := Lib.hid fa
            clear fa c50 c51
            go_wp2_with (refine wpList_allocBlk rfl 24 rfl zero32 zvD zero32c rfl ?_)
            intro wb nb
            have Nb := Lib.hid nb
            clear nb
            generalize hg6 : wa.heap.size = g6 at *
            have HG6 := Lib.hid hg6
            clear hg6
            go_wp2_with (refine wpList_storeBlk rfl 24 (.tmp 6) _ rfl g6 LV.toArray rfl rfl _ _ (by have h := Nb.out.blk; rw [HG6.out] at h; exact h) DLV.out.info DLV.out.zero DLV.out.one ?_)
            intro wc bc fc
            have J6c := Lib.hid bc
            have Fc : Hid (Fr Nothing wa wc) := Nb.out.fr.then_ fc (fun i hi e => by have e' : i = g6 := e; have := HG6.out; omega)
            have HA2 := Lib.hid (HA1.out.later Fc.out)
            clear bc fc Nb HA1
            have c50 : wc.cell? ⟨g5, 0, none⟩ = some (.int .i64 lv) := HA2.out.blk5.cell 0
            have c51 : wc.cell? ⟨g5, 1, none⟩ = some (.int .i64 idx) := HA2.out.blk5.cell 1
            go_wp2_with fail
            refine (CR.out _ (Fa.out.trans Fc.out)).mono ?_
            rintro e wd ⟨rfl, fd⟩
            have HA3 := Lib.hid (HA2.out.later fd)
            have J6d := Lib.hid (J6c.out.fr fd (fun x => x))
            clear fd c50 c51 HA2 J6c Fa Fc CL CR HG6
            go_wp2_with (refine wpList_allocBlk rfl 24 rfl zero32 zvD zero32c rfl ?_)
            intro we ne
            have Ne := Lib.hid ne
            clear ne
            generalize hg7 : wd.heap.size = g7 at *
            have HG7 := Lib.hid hg7
            clear hg7
            have L67 : Hid (g6 < g7) := by have := J6d.out.lt; have := HG7.out; simp only [Hid]; omega
            go_wp2_with (refine wpList_storeBlk rfl 24 (.tmp 7) _ rfl g7 RV.toArray rfl rfl _ _ (by have h := Ne.out.blk; rw [HG7.out] at h; exact h) DRV.out.info DRV.out.zero DRV.out.one ?_)
            intro wf bf ff
            have J7f := Lib.hid bf
            have Ff : Hid (Fr Nothing wd wf) := Ne.out.fr.then_ ff (fun i hi e => by have e' : i = g7 := e; have := HG7.out; omega)
            have HA4 := Lib.hid (HA3.out.later Ff.out)
            have J6f := Lib.hid (J6d.out.fr Ff.out (fun x => x))
            clear bf ff Ne HA3 J6d Ff HG7
            have c50 : wf.cell? ⟨g5, 0, none⟩ = some (.int .i64 lv) := HA4.out.blk5.cell 0
            have c51 : wf.cell? ⟨g5, 1, none⟩ = some (.int .i64 idx) := HA4.out.blk5.cell 1
            have O5 : Hid ((#[Value.int .i64 (l1 : Int), Value.int .i64 (q : Int)] : Array Value).all (·.oneCell') = true) := by simp [Hid, Value.oneCell']
            go_wp2_with (refine wpList_storeBlk rfl 110 (.tmp 5) _ rfl g5 #[.int .i64 (l1 : Int), .int .i64 (q : Int)] rfl rfl _ _ HA4.out.blk5 infoPart rfl O5.out ?_)
            intro wg bg fg
            have H13 := Lib.hid (HA4.out.put5 fg bg GW.out)
            have J6 := Lib.hid (J6f.out.fr fg (fun e => by have e' : g6 = g5 := e; exact Blk.ne_ J6f.out HA4.out.blk5 (by decide) e'))
            have J7 := Lib.hid (J7f.out.fr fg (fun e => by have e' : g7 = g5 := e; exact Blk.ne_ J7f.out HA4.out.blk5 (by decide) e'))
            clear O5 bg fg HA4 J6f J7f c50 c51
            have K0 : Hid (wg.cell? ⟨g5, 0, none⟩ = some (.int .i64 (l1 : Int))) := H13.out.blk5.cell 0
            have K1 : Hid (wg.cell? ⟨g5, 1, none⟩ = some (.int .i64 q)) := H13.out.blk5.cell 1
            have M1 : Hid (wg.cell? ⟨p, 1, none⟩ = some (.map (some b))) := H13.out.blk.cell 1
            clear a1 a2 a3 a4 a5 a6 a7 a8 w6
            go_upto_region 13 with fail
            refine wp_region_st 8 Nothing [Is (.pointer (some ⟨p, 0, none⟩)), Is (.pointer (some ⟨p, 0, none⟩)), Is (.pointer (some ⟨p, 1, none⟩)), Is (.map (some b)), Is (keyV l1 q), Is (.agg LV.toArray), Is (.agg RV.toArray), Is (.agg NV.toArray)] [] (fun _ => True) (fun _ _ => false) (by kernel_rfl) (by kernel_rfl) (by kernel_rfl) (by kernel_rfl) ⟨Is.stable _, Is.stable _, Is.stable _, Is.stable _, Is.stable _, Is.stable _, Is.stable _, Is.stable _, trivial⟩ trivial (fun _ _ _ _ h => h) trivial ?_ ?_
            · refine ⟨fun u w' d hf hR k1 k0 kM => ?_, fun u w' d hf hR k1 k0 kM => ?_, fun u w' d hf hR k1 k0 kM => ?_, fun u w' d hf hR k1 k0 kM => ?_, fun u w' d hf hR k1 k0 kM => ?_, fun u w' d hf hR k1 k0 kM => ?_, fun u w' d hf hR k1 k0 kM => ?_, fun u w' d hf hR k1 k0 kM => ?_, trivial⟩
              all_goals simp only [List.take_succ_cons, List.take_zero, List.map_cons, List.map_nil, puts, Act.put, List.setIfInBounds_toArray, List.set_cons_zero, List.set_cons_succ, Nat.reduceAdd, Nat.zero_add]
              · clear hR k1 k0 kM
                refine .inl ⟨by kernel_rfl, ?_⟩
                go_simp
                exact ⟨_, rfl, Fr.refl _ _, rfl, trivial⟩
              · have h0 : u 0 = _ := hR 0 (by kernel_rfl)
                clear hR k1 k0 kM
                simp only [h0]
                refine .inl ⟨by kernel_rfl, ?_⟩
                go_simp
                exact ⟨_, rfl, Fr.refl _ _, rfl, trivial⟩
              · have h1 : u 1 = _ := hR 1 (by kernel_rfl)
                clear hR k1 k0 kM
                simp only [h1]
                refine .inl ⟨by kernel_rfl, ?_⟩
                go_simp
                exact ⟨_, rfl, Fr.refl _ _, rfl, trivial⟩
              · have h2 : u 2 = _ := hR 2 (by kernel_rfl)
                clear hR k1 k0 kM
                simp only [h2]
                refine .inl ⟨by kernel_rfl, ?_⟩
                have hc := hf.cellSome M1.out (fun x => x)
                go_simp
                exact ⟨_, rfl, Fr.refl _ _, rfl, trivial⟩
              · clear hR k1 k0 kM
                refine .inl ⟨by kernel_rfl, ?_⟩
                have hc := hf.cellSome K0.out (fun x => x)
                have hc2 := hf.cellSome K1.out (fun x => x)
                go_simp
                exact ⟨_, rfl, Fr.refl _ _, rfl, trivial⟩
              · clear hR k1 k0 kM
                refine .inl ⟨by kernel_rfl, ?_⟩
                exact wp_load_mid _ _ rfl g6 0 rfl LV _ (range_blk (J6.out.fr hf (fun x => x))) Tryd.underlying24 rfl ILV.out ⟨_, rfl, Fr.refl _ _, rfl, trivial⟩
              · clear hR k1 k0 kM
                refine .inl ⟨by kernel_rfl, ?_⟩
                exact wp_load_mid _ _ rfl g7 0 rfl RV _ (range_blk (J7.out.fr hf (fun x => x))) Tryd.underlying24 rfl IRV.out ⟨_, rfl, Fr.refl _ _, rfl, trivial⟩
              · have h5 : u 5 = _ := hR 5 (by kernel_rfl)
                have h6 : u 6 = _ := hR 6 (by kernel_rfl)
                clear hR k1 k0 kM
                simp only [h5, h6]
                refine .inl ⟨by kernel_rfl, ?_⟩
                go_simp
                refine (CN.out _ (H13.out.frS.trans hf.weak)).mono ?_
                rintro e w4 ⟨rfl, f4⟩
                exact ⟨_, rfl, f4.weak, rfl, trivial⟩
            · intro u w' hf hR kM
              have h3 : u 3 = _ := hR 3 (by omega)
              have h4 : u 4 = _ := hR 4 (by omega)
              have h7 : u 7 = _ := hR 7 (by omega)
              have H14 := Lib.hid (H13.out.later hf)
              clear hR kM hf K0 K1 M1 J6 J7 H13
              simp only [List.take_succ_cons, List.take_zero, List.map_cons, List.map_nil, puts, Act.put, List.setIfInBounds_toArray, List.set_cons_zero, List.set_cons_succ, List.drop_succ_cons, List.drop_zero, Nat.reduceAdd, Nat.zero_add, h3, h4, h7]
              refine wpList_updateP rfl (.tmp 68) (.tmp 69) (.tmp 72) rfl H14.out.map l1 q rfl rfl rfl (by rw [HL1.out]; exact chain_new n lv q E2.out) NVE.out (chainC n l1) (fun l i => by rw [HL1.out]; exact chain_step n lv q l i E2.out) ?_
              intro wz hPz fz
              have HZ := Lib.hid (H14.out.putM fz hPz BW.out)
              clear hPz fz H14
              simp only [Act.put]
              go_wp2
              go_roundw
              case rel => exact ⟨l1, q, by rw [HL1.out]; exact E2.out, HZ.out⟩
              case measure =>
                have k1 : wz.cell? ⟨g5, 1, none⟩ = some (.int .i64 q) := HZ.out.blk5.cell 1
                have k2 : wr.cell? ⟨g5, 1, none⟩ = some (.int .i64 idx) := HA.out.blk5.cell 1
                have := HQ.out
                rw [k1, k2]
                simp [intOf]
                omega
          · have a1 : (idx : Int).tmod 2 = 0 := by rw [Int.tmod_eq_emod_of_nonneg (by omega)]; omega
            have a2 : (idx : Int) % 2 = 0 := by omega
            have ZE : Hid (∀ l i, chainC n lv l i ↔ partC (n + 1) l i) := fun l i => chain_end n lv idx HE.out (by omega) l i
            go_wp2
            go_ret
            exact ⟨rfl, A', c', some b, (HA.out.tree DSE.out).congr ZE.out, HA.out.fr, fun k hk => by
              rcases hk with h | h | h
              · exact .inl (.inl h)
              · have e : b = k := Option.some.inj h
                rw [← e]
                exact MBL.out
              · exact LOW9'.out k h⟩
    · have RM := Lib.hid hroom
      clear hroom
      refine wp_region_st 8 Nothing [Is (.pointer (some ⟨p, 0, none⟩)), Is (.pointer (some ⟨p, 0, none⟩)), Is (.pointer (some ⟨p, 0, none⟩)), Is (.pointer (some ⟨p, 0, none⟩)), Is (.slice A n c), Is (.agg DV.toArray), fun v W => ∃ g, v = .slice (some ⟨g, 0, none⟩) 1 1 ∧ w8.heap.size ≤ g ∧ Blk W g 24 DV.toArray, fun v W => ∃ g cap, v = .slice (some ⟨g, 0, none⟩) (n + 1) cap ∧ w8.heap.size ≤ g ∧ W.ownsRow 0 24 32 v (n + 1) (ds.flatMap digC ++ DV)] [] (fun _ => True) (fun _ _ => false) (by kernel_rfl) (by kernel_rfl) (by kernel_rfl) (by kernel_rfl) ⟨Is.stable _, Is.stable _, Is.stable _, Is.stable _, Is.stable _, Is.stable _, fun v w' w'' _ hf ⟨g, h, l, b⟩ => ⟨g, h, l, b.fr hf (fun x => x)⟩, fun v w' w'' _ hf ⟨g, cap, h, l, b⟩ => ⟨g, cap, h, l, own_fr b hf (fun _ _ x => x)⟩, trivial⟩ trivial (fun _ _ _ _ h => h) trivial ?_ ?_
      · refine ⟨fun u w' d hf hR k1 k0 kM => ?_, fun u w' d hf hR k1 k0 kM => ?_, fun u w' d hf hR k1 k0 kM => ?_, fun u w' d hf hR k1 k0 kM => ?_, fun u w' d hf hR k1 k0 kM => ?_, fun u w' d hf hR k1 k0 kM => ?_, fun u w' d hf hR k1 k0 kM => ?_, fun u w' d hf hR k1 k0 kM => ?_, trivial⟩
        all_goals simp only [List.take_succ_cons, List.take_zero, List.map_cons, List.map_nil, puts, Act.put, List.setIfInBounds_toArray, List.set_cons_zero, List.set_cons_succ, Nat.reduceAdd, Nat.zero_add]
        · clear hR k1 k0 kM
          refine .inl ⟨by kernel_rfl, ?_⟩
          go_simp
          exact ⟨_, rfl, Fr.refl _ _, rfl, trivial⟩
        · clear hR k1 k0 kM
          refine .inl ⟨by kernel_rfl, ?_⟩
          go_simp
          exact ⟨_, rfl, Fr.refl _ _, rfl, trivial⟩
        · have h1 : u 1 = _ := hR 1 (by kernel_rfl)
          clear hR k1 k0 kM
          simp only [h1]
          refine .inl ⟨by kernel_rfl, ?_⟩
          go_simp
          exact ⟨_, rfl, Fr.refl _ _, rfl, trivial⟩
        · have h2 : u 2 = _ := hR 2 (by kernel_rfl)
          clear hR k1 k0 kM
          simp only [h2]
          refine .inl ⟨by kernel_rfl, ?_⟩
          go_simp
          exact ⟨_, rfl, Fr.refl _ _, rfl, trivial⟩
        · have h3 : u 3 = _ := hR 3 (by kernel_rfl)
          clear hR k1 k0 kM
          simp only [h3]
          refine .inl ⟨by kernel_rfl, ?_⟩
          have hc := hf.cellSome P8.out (fun x => x)
          go_simp
          exact ⟨_, rfl, Fr.refl _ _, rfl, trivial⟩
        · clear hR k1 k0 kM
          refine .inl ⟨by kernel_rfl, ?_⟩
          exact wp_load_mid _ _ rfl g3 0 rfl DV _ (range_blk (L8.out.fr hf (fun x => x))) Tryd.underlying24 rfl HI.out ⟨_, rfl, Fr.refl _ _, rfl, trivial⟩
        · have h5 : u 5 = _ := hR 5 (by kernel_rfl)
          clear hR k1 k0 kM
          simp only [h5]
          refine .inl ⟨by kernel_rfl, ?_⟩
          refine wp_buildSlice 29 24 1 #[(0, .tmp 38)] rfl DV.toArray i0 zero32 Tryd.underlying29 hi0 hz0 g1.out g2.out ?_ ?_
          · simp only [List.map_toArray, List.map_cons, List.map_nil]
            exact gf.out
          · exact ⟨_, rfl, (Fr.refl _ _).alloc _, ⟨w'.heap.size, rfl, hf.size, Blk.new _ _ _⟩, trivial⟩
        · have h4 : u 4 = _ := hR 4 (by kernel_rfl)
          obtain ⟨g6, h6, l6, b6⟩ := hR 6 (by kernel_rfl)
          clear hR k1 k0 kM
          simp only [h4, h6]
          refine .inl ⟨by kernel_rfl, ?_⟩
          refine wp_appD_new (.tmp 37) (.tmp 39) rfl A n c _ rfl (own_fr R8.out hf (fun _ _ x => x)) RM.out HN.out ⟨g6, 0, none⟩ 1 DV rfl HL.out (fun j u hu => by rw [Addr.add_mid, Nat.zero_add, b6.cell, List.getElem?_toArray]; exact hu) HO.out ?_
          intro g cap w'' hf2 hg hown
          exact ⟨_, rfl, hf2, ⟨g, cap, rfl, Nat.le_trans hf.size hg, hown⟩, trivial⟩
      · intro u w' hf hR kM
        obtain ⟨gn, c', h7, hgn, kR⟩ := hR 7 (by omega)
        have h0 : u 0 = _ := hR 0 (by omega)
        rw [h7] at kR
        have B9 := Lib.hid (B8.out.fr hf (fun x => x))
        have M9 := Lib.hid (M8.out.fr hf (fun x => x))
        have G9 := Lib.hid (G8.out.fr hf (fun x => x))
        have F9 : Hid (Fr (TB p A n c none) w w') := F8.out.trans hf.weak
        have hw8 := F8.out.size
        obtain ⟨A', hA'⟩ : ∃ A', A' = some (⟨gn, 0, none⟩ : Addr) := ⟨_, rfl⟩
        have R9' : Hid (w'.ownsRow 0 24 32 (.slice A' (n + 1) c') (n + 1) (ds.flatMap digC ++ DV)) := by rw [hA']; exact kR
        have LOW9' : Hid (∀ k, (Value.slice A' (n + 1) c').ownBlock = some k → TB p A n c none k ∨ w.heap.size ≤ k) := by
          rw [hA']
          intro k hk
          have : gn = k := by simpa [Value.ownBlock] using hk
          exact .inr (by omega)
        rw [← hA'] at h7
        clear hR kM kR hf P8 B8 R8 M8 L8 F8 G8 LOW hw8 hA' hgn
        simp only [List.take_succ_cons, List.take_zero, List.map_cons, List.map_nil, puts, Act.put, List.setIfInBounds_toArray, List.set_cons_zero, List.set_cons_succ, List.drop_succ_cons, List.drop_zero, Nat.reduceAdd, Nat.zero_add, h0, h7]
        generalize w' = w9 at *
        go_wp2_with (refine wpList_storeOne rfl 29 (.tmp 42) _ rfl p 0 (.slice A' (n + 1) c') rfl rfl rfl infoSD 102 #[.slice A n c, .map (some b)] #[.slice A' (n + 1) c', .map (some b)] B9.out (show 0 < 2 by decide) rfl ?_)
        intro w10 b10 f10
        have AP : Hid (ApS w w10 p b g5 (.slice A' (n + 1) c') (ds ++ [d]) (n + 1) (chainC n 0) 0 n (TB p A n c none)) :=
          ⟨F9.out.trans (f10.mono (fun i _ e => .inl e)), b10, own_fr (by rw [List.flatMap_append, List.flatMap_singleton, DVQ.out]; exact R9'.out) f10 (fun k hk e => by have e' : k = p := e; exact own_blk_ne R9'.out B9.out (by decide) (by rw [← e']; exact hk)),
           ((M9.out.fr f10 (fun e => by have e' : b = p := e; exact M9.out.ne_blk B9.out e')).more d (fun l i h => by rw [DL.out]; exact h.2)).congr (chain_start n), G9.out.fr f10 (fun e => by have e' : g5 = p := e; exact Blk.ne_ G9.out B9.out (by decide) e')⟩
        clear b10 f10 B9 M9 G9 F9 R9'
        generalize w10 = wS at *
        go_wp2
        go_loopw [43] (fun _ wr => ∃ lv idx : Nat, (idx + 1) * 2 ^ lv = n + 1 ∧ ApS w wr p b g5 (.slice A' (n + 1) c') (ds ++ [d]) (n + 1) (chainC n lv) lv idx (TB p A n c none)) (fun _ wr => (intOf ((wr.cell? ⟨g5, 1, none⟩).getD undef)).toNat)
        case atStart => exact ⟨0, n, by simp, AP.out⟩
        case round =>
          obtain ⟨lv, idx, he, hA⟩ := hrel
          have HA := Lib.hid hA
          have HE := Lib.hid he
          have p1 : 1 ≤ 2 ^ lv := Nat.one_le_two_pow
          have hil : (idx + 1) * 1 ≤ (idx + 1) * 2 ^ lv := Nat.mul_le_mul_left _ p1
          have hi4 : idx ≤ 1048576 := by have := HN.out; omega
          have hl4 : lv ≤ 64 := by
            rcases Nat.lt_or_ge 64 lv with h | h
            · have h1 : 2 ^ 64 ≤ 2 ^ lv := Nat.pow_le_pow_right (by omega) (by omega)
              have h2 : 1 * 2 ^ lv ≤ (idx + 1) * 2 ^ lv := Nat.mul_le_mul_right _ (by omega)
              have := HN.out
              omega
            · exact h
          have c50 : wr.cell? ⟨g5, 0, none⟩ = some (.int .i64 lv) := hA.blk5.cell 0
          have c51 : wr.cell? ⟨g5, 1, none⟩ = some (.int .i64 idx) := hA.blk5.cell 1
          clear hA he AP
          by_cases hodd : idx % 2 = 1
          · obtain ⟨q, hq⟩ : ∃ q, idx = 2 * q + 1 := ⟨idx / 2, by omega⟩
            obtain ⟨k2, hk2⟩ : ∃ k2, k2 = 2 * q := ⟨_, rfl⟩
            have a1 : (idx : Int).tmod 2 = 1 := by rw [Int.tmod_eq_emod_of_nonneg (by omega)]; omega
            have a2 : (idx : Int) % 2 = 1 := by omega
            have a3 : (idx : Int) - 1 = (k2 : Int) := by omega
            have a4 : (idx : Int).tdiv 2 = (q : Int) := by rw [Int.tdiv_eq_ediv_of_nonneg (by omega)]; omega
            have a5 : (idx : Int) / 2 = (q : Int) := by omega
            have a6 : idx / 2 = q := by omega
            obtain ⟨l1, hl1⟩ : ∃ l1, l1 = lv + 1 := ⟨_, rfl⟩
            have a7 : (lv : Int) + 1 = (l1 : Int) := by omega
            have a8 : l1 ≤ 65 := by omega
            have HL1 : Hid (l1 = lv + 1) := hl1
            have w6 : IntKind.i64.wrap (q : Int) = (q : Int) := IntWalk.i64_in _ (by omega)
            have HQ : Hid (idx = 2 * q + 1 ∧ k2 = 2 * q) := ⟨hq, hk2⟩
            have e2 : (q + 1) * 2 ^ (lv + 1) = n + 1 := by rw [← HE.out, show idx + 1 = 2 * (q + 1) by omega, Nat.pow_succ, Nat.mul_comm (2 ^ lv) 2, ← Nat.mul_assoc, Nat.mul_comm (q + 1) 2]
            have E2 := Lib.hid e2
            have e3 : (k2 + 1) * 2 ^ lv ≤ n := by
              have h1 : (idx + 1) * 2 ^ lv = idx * 2 ^ lv + 2 ^ lv := by rw [Nat.add_mul, Nat.one_mul]
              have h2 : (k2 + 1) = idx := by omega
              rw [h2]
              have := HE.out
              omega
            have CL : Hid (∀ w', Fr Nothing wr w' → Calls Tryd.prog 66 #[.pointer (some ⟨p, 0, none⟩), .agg #[.int .i64 (lv : Int), .int .i64 (k2 : Int)]] w' (Same' w' (digV (partR (ds ++ [d]) lv k2)))) :=
              fun w' hf => complete_any p A' (n + 1) c' (some b) (ds ++ [d]) (chainC n lv) lv k2 w' ((HA.out.tree DSE.out).fr0 hf) (by omega) (fun h => ⟨h, .inl e3⟩) hl4 (by have := HN.out; omega)
            have CR : Hid (∀ w', Fr Nothing wr w' → Calls Tryd.prog 66 #[.pointer (some ⟨p, 0, none⟩), .agg #[.int .i64 (lv : Int), .int .i64 (idx : Int)]] w' (Same' w' (digV (partR (ds ++ [d]) lv idx)))) :=
              fun w' hf => complete_any p A' (n + 1) c' (some b) (ds ++ [d]) (chainC n lv) lv idx w' ((HA.out.tree DSE.out).fr0 hf) (by have := HE.out; omega) (fun h => ⟨h, .inr ⟨HE.out, Nat.le_refl _⟩⟩) hl4 (by have := HN.out; omega)
            have ll : (partR (ds ++ [d]) lv k2).length = 32 := partR_length _ DSE.out.2 lv k2 (by rw [DSE.out.1]; omega)
            have lr : (partR (ds ++ [d]) lv idx).length = 32 := partR_length _ DSE.out.2 lv idx (by rw [DSE.out.1]; have := HE.out; omega)
            have CN : Hid (∀ w', Fr (TB p A n c none) w w' → Calls Tryd.prog 17 #[digV (partR (ds ++ [d]) lv k2), digV (partR (ds ++ [d]) lv idx)] w' (Same' w' (digV (nodeD (partR (ds ++ [d]) lv k2) (partR (ds ++ [d]) lv idx))))) := fun w' hf => Node_any _ _ ll lr w' (HS.out.fr hf (NS.out _ (.inl rfl)) (NS.out _ (.inr rfl)))
            have NVE : Hid (Value.agg (digC (nodeD (partR (ds ++ [d]) lv k2) (partR (ds ++ [d]) lv idx))).toArray = digV (partR (ds ++ [d]) l1 q)) := by
              have : partR (ds ++ [d]) l1 q = nodeD (partR (ds ++ [d]) lv k2) (partR (ds ++ [d]) lv idx) := by rw [hl1, hq, hk2]; rfl
              rw [this]
              rfl
            have DLV : Hid (Dig (digC (partR (ds ++ [d]) lv k2)).toArray) := Dig.of ll
            have DRV : Hid (Dig (digC (partR (ds ++ [d]) lv idx)).toArray) := Dig.of lr
            have ILV : Hid ((Tryd.prog.info? 24).map (·.size) = some (digC (partR (ds ++ [d]) lv k2)).length) := by rw [digC, List.length_map, ll]; exact infoD
            have IRV : Hid ((Tryd.prog.info? 24).map (·.size) = some (digC (partR (ds ++ [d]) lv idx)).length) := by rw [digC, List.length_map, lr]; exact infoD
            unfold digV at CL CR CN
            simp only [show ∀ l : List UInt8, l.map bvI = digC l from fun _ => rfl] at CL CR CN
            generalize digC (nodeD (partR (ds ++ [d]) lv k2) (partR (ds ++ [d]) lv idx)) = NV at *
            generalize digC (partR (ds ++ [d]) lv k2) = LV at *
            generalize digC (partR (ds ++ [d]) lv idx) = RV at *
            clear hq hk2 hl1 e2 e3 ll lr hil p1
            go_wp2_with fail
            refine (CL.out _ (Fr.refl _ _)).mono ?_
            rintro e wa ⟨rfl, fa⟩
            have HA1 := Lib.hid (HA.out.later fa)
            have Fa := Lib.hid fa
            clear fa c50 c51
            go_wp2_with (refine wpList_allocBlk rfl 24 rfl zero32 zvD zero32c rfl ?_)
            intro wb nb
            have Nb := Lib.hid nb
            clear nb
            generalize hg6 : wa.heap.size = g6 at *
            have HG6 := Lib.hid hg6
            clear hg6
            go_wp2_with (refine wpList_storeBlk rfl 24 (.tmp 6) _ rfl g6 LV.toArray rfl rfl _ _ (by have h := Nb.out.blk; rw [HG6.out] at h; exact h) DLV.out.info DLV.out.zero DLV.out.one ?_)
            intro wc bc fc
            have J6c := Lib.hid bc
            have Fc : Hid (Fr Nothing wa wc) := Nb.out.fr.then_ fc (fun i hi e => by have e' : i = g6 := e; have := HG6.out; omega)
            have HA2 := Lib.hid (HA1.out.later Fc.out)
            clear bc fc Nb HA1
            have c50 : wc.cell? ⟨g5, 0, none⟩ = some (.int .i64 lv) := HA2.out.blk5.cell 0
            have c51 : wc.cell? ⟨g5, 1, none⟩ = some (.int .i64 idx) := HA2.out.blk5.cell 1
            go_wp2_with fail
            refine (CR.out _ (Fa.out.trans Fc.out)).mono ?_
            rintro e wd ⟨rfl, fd⟩
            have HA3 := Lib.hid (HA2.out.later fd)
            have J6d := Lib.hid (J6c.out.fr fd (fun x => x))
            clear fd c50 c51 HA2 J6c Fa Fc CL CR HG6
            go_wp2_with (refine wpList_allocBlk rfl 24 rfl zero32 zvD zero32c rfl ?_)
            intro we ne
            have Ne := Lib.hid ne
            clear ne
            generalize hg7 : wd.heap.size = g7 at *
            have HG7 := Lib.hid hg7
            clear hg7
            have L67 : Hid (g6 < g7) := by have := J6d.out.lt; have := HG7.out; simp only [Hid]; omega
            go_wp2_with (refine wpList_storeBlk rfl 24 (.tmp 7) _ rfl g7 RV.toArray rfl rfl _ _ (by have h := Ne.out.blk; rw [HG7.out] at h; exact h) DRV.out.info DRV.out.zero DRV.out.one ?_)
            intro wf bf ff
            have J7f := Lib.hid bf
            have Ff : Hid (Fr Nothing wd wf) := Ne.out.fr.then_ ff (fun i hi e => by have e' : i = g7 := e; have := HG7.out; omega)
            have HA4 := Lib.hid (HA3.out.later Ff.out)
            have J6f := Lib.hid (J6d.out.fr Ff.out (fun x => x))
            clear bf ff Ne HA3 J6d Ff HG7
            have c50 : wf.cell? ⟨g5, 0, none⟩ = some (.int .i64 lv) := HA4.out.blk5.cell 0
            have c51 : wf.cell? ⟨g5, 1, none⟩ = some (.int .i64 idx) := HA4.out.blk5.cell 1
            have O5 : Hid ((#[Value.int .i64 (l1 : Int), Value.int .i64 (q : Int)] : Array Value).all (·.oneCell') = true) := by simp [Hid, Value.oneCell']
            go_wp2_with (refine wpList_storeBlk rfl 110 (.tmp 5) _ rfl g5 #[.int .i64 (l1 : Int), .int .i64 (q : Int)] rfl rfl _ _ HA4.out.blk5 infoPart rfl O5.out ?_)
            intro wg bg fg
            have H13 := Lib.hid (HA4.out.put5 fg bg GW.out)
            have J6 := Lib.hid (J6f.out.fr fg (fun e => by have e' : g6 = g5 := e; exact Blk.ne_ J6f.out HA4.out.blk5 (by decide) e'))
            have J7 := Lib.hid (J7f.out.fr fg (fun e => by have e' : g7 = g5 := e; exact Blk.ne_ J7f.out HA4.out.blk5 (by decide) e'))
            clear O5 bg fg HA4 J6f J7f c50 c51
            have K0 : Hid (wg.cell? ⟨g5, 0, none⟩ = some (.int .i64 (l1 : Int))) := H13.out.blk5.cell 0
            have K1 : Hid (wg.cell? ⟨g5, 1, none⟩ = some (.int .i64 q)) := H13.out.blk5.cell 1
            have M1 : Hid (wg.cell? ⟨p, 1, none⟩ = some (.map (some b))) := H13.out.blk.cell 1
            clear a1 a2 a3 a4 a5 a6 a7 a8 w6
            go_upto_region 13 with fail
            refine wp_region_st 8 Nothing [Is (.pointer (some ⟨p, 0, none⟩)), Is (.pointer (some ⟨p, 0, none⟩)), Is (.pointer (some ⟨p, 1, none⟩)), Is (.map (some b)), Is (keyV l1 q), Is (.agg LV.toArray), Is (.agg RV.toArray), Is (.agg NV.toArray)] [] (fun _ => True) (fun _ _ => false) (by kernel_rfl) (by kernel_rfl) (by kernel_rfl) (by kernel_rfl) ⟨Is.stable _, Is.stable _, Is.stable _, Is.stable _, Is.stable _, Is.stable _, Is.stable _, Is.stable _, trivial⟩ trivial (fun _ _ _ _ h => h) trivial ?_ ?_
            · refine ⟨fun u w' d hf hR k1 k0 kM => ?_, fun u w' d hf hR k1 k0 kM => ?_, fun u w' d hf hR k1 k0 kM => ?_, fun u w' d hf hR k1 k0 kM => ?_, fun u w' d hf hR k1 k0 kM => ?_, fun u w' d hf hR k1 k0 kM => ?_, fun u w' d hf hR k1 k0 kM => ?_, fun u w' d hf hR k1 k0 kM => ?_, trivial⟩
              all_goals simp only [List.take_succ_cons, List.take_zero, List.map_cons, List.map_nil, puts, Act.put, List.setIfInBounds_toArray, List.set_cons_zero, List.set_cons_succ, Nat.reduceAdd, Nat.zero_add]
              · clear hR k1 k0 kM
                refine .inl ⟨by kernel_rfl, ?_⟩
                go_simp
                exact ⟨_, rfl, Fr.refl _ _, rfl, trivial⟩
              · have h0 : u 0 = _ := hR 0 (by kernel_rfl)
                clear hR k1 k0 kM
                simp only [h0]
                refine .inl ⟨by kernel_rfl, ?_⟩
                go_simp
                exact ⟨_, rfl, Fr.refl _ _, rfl, trivial⟩
              · have h1 : u 1 = _ := hR 1 (by kernel_rfl)
                clear hR k1 k0 kM
                simp only [h1]
                refine .inl ⟨by kernel_rfl, ?_⟩
                go_simp
                exact ⟨_, rfl, Fr.refl _ _, rfl, trivial⟩
              · have h2 : u 2 = _ := hR 2 (by kernel_rfl)
                clear hR k1 k0 kM
                simp only [h2]
                refine .inl ⟨by kernel_rfl, ?_⟩
                have hc := hf.cellSome M1.out (fun x => x)
                go_simp
                exact ⟨_, rfl, Fr.refl _ _, rfl, trivial⟩
              · clear hR k1 k0 kM
                refine .inl ⟨by kernel_rfl, ?_⟩
                have hc := hf.cellSome K0.out (fun x => x)
                have hc2 := hf.cellSome K1.out (fun x => x)
                go_simp
                exact ⟨_, rfl, Fr.refl _ _, rfl, trivial⟩
              · clear hR k1 k0 kM
                refine .inl ⟨by kernel_rfl, ?_⟩
                exact wp_load_mid _ _ rfl g6 0 rfl LV _ (range_blk (J6.out.fr hf (fun x => x))) Tryd.underlying24 rfl ILV.out ⟨_, rfl, Fr.refl _ _, rfl, trivial⟩
              · clear hR k1 k0 kM
                refine .inl ⟨by kernel_rfl, ?_⟩
                exact wp_load_mid _ _ rfl g7 0 rfl RV _ (range_blk (J7.out.fr hf (fun x => x))) Tryd.underlying24 rfl IRV.out ⟨_, rfl, Fr.refl _ _, rfl, trivial⟩
              · have h5 : u 5 = _ := hR 5 (by kernel_rfl)
                have h6 : u 6 = _ := hR 6 (by kernel_rfl)
                clear hR k1 k0 kM
                simp only [h5, h6]
                refine .inl ⟨by kernel_rfl, ?_⟩
                go_simp
                refine (CN.out _ (H13.out.frS.trans hf.weak)).mono ?_
                rintro e w4 ⟨rfl, f4⟩
                exact ⟨_, rfl, f4.weak, rfl, trivial⟩
            · intro u w' hf hR kM
              have h3 : u 3 = _ := hR 3 (by omega)
              have h4 : u 4 = _ := hR 4 (by omega)
              have h7 : u 7 = _ := hR 7 (by omega)
              have H14 := Lib.hid (H13.out.later hf)
              clear hR kM hf K0 K1 M1 J6 J7 H13
              simp only [List.take_succ_cons, List.take_zero, List.map_cons, List.map_nil, puts, Act.put, List.setIfInBounds_toArray, List.set_cons_zero, List.set_cons_succ, List.drop_succ_cons, List.drop_zero, Nat.reduceAdd, Nat.zero_add, h3, h4, h7]
              refine wpList_updateP rfl (.tmp 68) (.tmp 69) (.tmp 72) rfl H14.out.map l1 q rfl rfl rfl (by rw [HL1.out]; exact chain_new n lv q E2.out) NVE.out (chainC n l1) (fun l i => by rw [HL1.out]; exact chain_step n lv q l i E2.out) ?_
              intro wz hPz fz
              have HZ := Lib.hid (H14.out.putM fz hPz BW.out)
              clear hPz fz H14
              simp only [Act.put]
              go_wp2
              go_roundw
              case rel => exact ⟨l1, q, by rw [HL1.out]; exact E2.out, HZ.out⟩
              case measure =>
                have k1 : wz.cell? ⟨g5, 1, none⟩ = some (.int .i64 q) := HZ.out.blk5.cell 1
                have k2 : wr.cell? ⟨g5, 1, none⟩ = some (.int .i64 idx) := HA.out.blk5.cell 1
                have := HQ.out
                rw [k1, k2]
                simp [intOf]
                omega
          · have a1 : (idx : Int).tmod 2 = 0 := by rw [Int.tmod_eq_emod_of_nonneg (by omega)]; omega
            have a2 : (idx : Int) % 2 = 0 := by omega
            have ZE : Hid (∀ l i, chainC n lv l i ↔ partC (n + 1) l i) := fun l i => chain_end n lv idx HE.out (by omega) l i
            go_wp2
            go_ret
            exact ⟨rfl, A', c', some b, (HA.out.tree DSE.out).congr ZE.out, HA.out.fr, fun k hk => by
              rcases hk with h | h | h
              · exact .inl (.inl h)
              · have e : b = k := Option.some.inj h
                rw [← e]
                exact MBL.out
              · exact LOW9'.out k h⟩
end Go.Proofs.YtkaghbpdnmigmaaDoor
