/- LogtreeCollides: the walk (written by genCoE.py). -/
import Derived.Lib.ReflectliteSwap
import Derived.Test.YtkaghbpdnmigmaaDoorCoD
import Derived.Test.YtkaghbpdnmigmaaDoorNdF
namespace Go.Proofs.YtkaghbpdnmigmaaDoor
open Go.RowKit

/-- A store into one cell of a block of the call's own. -/
theorem wpList_storeFld {P : Program} {ops : Array Oper} {rest : List Oper} {o : Oper} {a : Act} {w : World} {Q : Exit → Act → World → Prop} (hgd : o.guard = none) (ty : TypeId) (x y : Operand) (ho : o.op = .store ty x y)
    (g f : Nat) (v : Value) (hx : a.eval x = .pointer (some ⟨g, f, none⟩)) (hy : a.eval y = v) (h1 : v.oneCell' = true) (hi : (P.info? ty).map (·.size) = some 1)
    (t : TypeId) (cs cs' : Array Value) (hB : Blk w g t cs) (hf : f < cs.size) (hcs : cs.setIfInBounds f v = cs')
    (h : ∀ w', Blk w' g t cs' → Fr (fun k => k = g) w w' → wpList P ops Q rest (a.put o.dst undef) w') : wpList P ops Q (o :: rest) a w := by
  subst hcs
  obtain ⟨ie, hie, hs⟩ : ∃ ie, P.info? ty = some ie ∧ ie.size = 1 := by
    cases he : P.info? ty with
    | none => rw [he] at hi; cases hi
    | some ie => rw [he] at hi; exact ⟨ie, rfl, by simpa using hi⟩
  have hrun := Lib.rl_storeVar_one (P := P) ty ie hie hs ⟨g, f, none⟩ v (cs[f]) h1 w (by rw [hB.cell]; simp [hf]) (hB.frozen _)
  refine wpList_plain hgd fun K hK => ?_
  unfold Oper.wp execOp
  simp only [ho, hx, hy, Instr.storeAt, Instr.sureAddr, Sem.run_bind, Sem.run_pure, Result.andThen_ok, hrun]
  exact hK _ _ (h _ (hB.set_ f v) (Fr.setCell (T := fun k => k = g) (Fr.refl _ w) (fun _ => rfl) v))
theorem infoU1 : (Tryd.prog.info? 5).map (·.size) = some 1 := by kernel_rfl
theorem CopyS.low {b b' m : Nat} {path : List (List UInt8)} {v : Value} {W : World} (h : CopyS b m path v W) (hb : b' ≤ b) : CopyS b' m path v W := by
  obtain ⟨A, c, h1, h2, h3, h4⟩ := h
  refine ⟨A, c, h1, h2, h3, ?_⟩
  rcases h4 with h4 | ⟨g, zs, hA, hg, hB⟩
  · exact .inl h4
  · exact .inr ⟨g, zs, hA, Nat.le_trans hb hg, hB⟩
/-- A claim whose path is a copy. -/
def ClaimS (LV : List Value) (ix nn : Int) (b m : Nat) (path : List (List UInt8)) (v : Value) (W : World) : Prop := ∃ A c, v = .agg (LV ++ [Value.int .i64 ix, Value.int .i64 nn, Value.slice A m c]).toArray ∧ CopyA b m path A c W
theorem ClaimS.stable {w : World} {LV : List Value} {ix nn : Int} {b m : Nat} {path : List (List UInt8)} : ∀ v w' w'', Fr Nothing w w' → Fr Nothing w' w'' → ClaimS LV ix nn b m path v w' → ClaimS LV ix nn b m path v w'' := fun _ _ _ _ hf ⟨A, c, h, k⟩ => ⟨A, c, h, k.fr0 hf⟩
/-- A proof whose path can be read. -/
def ProofS (LV : List Value) (m : Nat) (path : List (List UInt8)) (v : Value) (W : World) : Prop := ∃ A c, v = .agg (LV ++ [Value.slice A m c]).toArray ∧ ∃ S, DigL W S A m path
theorem ProofS.stable {w : World} {LV : List Value} {m : Nat} {path : List (List UInt8)} : ∀ v w' w'', Fr Nothing w w' → Fr Nothing w' w'' → ProofS LV m path v w' → ProofS LV m path v w'' := fun _ _ _ _ hf ⟨A, c, h, S, k⟩ => ⟨A, c, h, S, k.fr0 hf⟩

/-- Both claims in memory. -/
structure CoW (w W : World) (g1 g7 : Nat) (L1 L7 : List Value) (S7 : Nat → Prop) (A7 : Option Addr) (len : Nat) (path2 : List (List UInt8)) : Prop where
  fr : Fr Nothing w W
  b1 : Blk W g1 40 L1.toArray
  b7 : Blk W g7 40 L7.toArray
  dig : DigL W S7 A7 len path2
theorem CoW.later {w W W' : World} {g1 g7 : Nat} {L1 L7 : List Value} {S7 : Nat → Prop} {A7 : Option Addr} {len : Nat} {path2 : List (List UInt8)} (h : CoW w W g1 g7 L1 L7 S7 A7 len path2) (hf : Fr Nothing W W') : CoW w W' g1 g7 L1 L7 S7 A7 len path2 :=
  ⟨h.fr.trans hf, h.b1.fr hf (fun x => x), h.b7.fr hf (fun x => x), h.dig.fr0 hf⟩

theorem spoil_two (leaf : List UInt8) (path : List (List UInt8)) (kk : Nat) (bb : UInt8) (len : Nat) (hl : leaf.length = 32) (hp : path.length = len) (he : ∀ d ∈ path, d.length = 32) (hk : kk < 32 * (1 + len)) :
    ∃ leaf2 path2, (kk < 32 → leaf2 = spoilLeaf leaf kk bb ∧ path2 = path) ∧ (¬ kk < 32 → leaf2 = leaf ∧ path2 = spoilPath path kk bb) ∧ leaf2.length = 32 ∧ path2.length = len ∧ (∀ d ∈ path2, d.length = 32) ∧ ((leaf = leaf2 ∧ path = path2) ↔ bb = 0) := by
  by_cases h : kk < 32
  · refine ⟨spoilLeaf leaf kk bb, path, fun _ => ⟨rfl, rfl⟩, fun h' => absurd h h', by rw [spoilLeaf_length, hl], hp, he, ?_⟩
    rw [← spoilLeaf_same leaf kk bb (by omega)]
    exact ⟨fun h => h.1.symm, fun h => ⟨h.symm, rfl⟩⟩
  · have hi : kk / 32 - 1 < path.length := by omega
    refine ⟨leaf, spoilPath path kk bb, fun h' => absurd h' h, fun _ => ⟨rfl, rfl⟩, hl, by rw [spoilPath_length, hp], spoilPath_each path kk bb hi he, ?_⟩
    rw [← spoilPath_same path kk bb hi he]
    exact ⟨fun h => h.2.symm, fun h => ⟨rfl, h.symm⟩⟩

theorem claim_set {w : World} {g : Nat} {leaf : List UInt8} {r : List Value} {k : Nat} (hk : k < leaf.length) (h : Blk w g 40 (digC leaf ++ r).toArray) : w.cell? ⟨g, k, none⟩ = some (.int .u8 (((leaf.getD k 0).toNat : Nat) : Int)) := by
  rw [h.cell, List.getElem?_toArray, List.getElem?_append_left (by rw [digC, List.length_map]; exact hk), digC, List.getElem?_map, List.getD_eq_getElem?_getD, List.getElem?_eq_getElem hk]
  rfl
theorem claim_put (leaf : List UInt8) (r : List Value) (k : Nat) (b : UInt8) (hk : k < leaf.length) : (digC leaf ++ r).toArray.setIfInBounds k (.int .u8 (((leaf.getD k 0 ^^^ b).toNat : Nat) : Int)) = (digC (spoilLeaf leaf k b) ++ r).toArray := by
  apply Array.ext'
  simp only [Array.toList_setIfInBounds]
  rw [List.set_append_left _ _ (by rw [digC, List.length_map]; exact hk)]
  have := digC_set leaf k (leaf.getD k 0 ^^^ b)
  unfold bvI at this
  rw [this]
  rfl
theorem flat_len (p : List (List UInt8)) (hp : ∀ d ∈ p, d.length = 32) : (p.flatMap digC).length = p.length * 32 := by
  induction p with
  | nil => rfl
  | cons d r ih =>
    rw [List.flatMap_cons, List.length_append, ih (fun x hx => hp x (by simp [hx])), digC, List.length_map, hp d (by simp), List.length_cons]
    omega
theorem path_cell {w : World} {g : Nat} {t : TypeId} {p : List (List UInt8)} {zs : List Value} (he : ∀ d ∈ p, d.length = 32) (h : Blk w g t (p.flatMap digC ++ zs).toArray) {i j : Nat} (hi : i < p.length) (hj : j < 32) : w.cell? ⟨g, i * 32 + j, none⟩ = some (.int .u8 ((((p.getD i []).getD j 0).toNat : Nat) : Int)) := by
  have hl : ∀ (p : List (List UInt8)), (∀ d ∈ p, d.length = 32) → ∀ i, i < p.length → (p.flatMap digC)[i * 32 + j]? = some (bvI ((p.getD i []).getD j 0)) := by
    intro p
    induction p with
    | nil => intro _ i h; simp at h
    | cons d r ih =>
      intro he i hi
      have hd : (digC d).length = 32 := by rw [digC, List.length_map]; exact he d (by simp)
      rcases i with _ | i
      · rw [List.flatMap_cons, Nat.zero_mul, Nat.zero_add, List.getElem?_append_left (by omega), digC, List.getElem?_map, List.getElem?_eq_getElem (by rw [he d (by simp)]; exact hj)]
        show some _ = some (bvI (d.getD j 0))
        rw [List.getD_eq_getElem?_getD, List.getElem?_eq_getElem (by rw [he d (by simp)]; exact hj)]
        rfl
      · rw [List.flatMap_cons, List.getElem?_append_right (by omega), show (i + 1) * 32 + j - (digC d).length = i * 32 + j by omega, ih (fun x hx => he x (by simp [hx])) i (by simpa using hi)]
        rfl
  have h1 := hl p he i hi
  rw [h.cell, List.getElem?_toArray, List.getElem?_append_left (List.getElem?_eq_some_iff.1 h1).1, h1]
  rfl
theorem path_put (p : List (List UInt8)) (zs : List Value) (he : ∀ d ∈ p, d.length = 32) (k : Nat) (b : UInt8) (hi : k / 32 - 1 < p.length) :
    (p.flatMap digC ++ zs).toArray.setIfInBounds ((k / 32 - 1) * 32 + k % 32) (.int .u8 (((((p.getD (k / 32 - 1) []).getD (k % 32) 0) ^^^ b).toNat : Nat) : Int)) = ((spoilPath p k b).flatMap digC ++ zs).toArray := by
  apply Array.ext'
  simp only [Array.toList_setIfInBounds]
  rw [List.set_append_left _ _ (by rw [flat_len p he]; omega)]
  have := flat_set p he (k / 32 - 1) (k % 32) (((p.getD (k / 32 - 1) []).getD (k % 32) 0) ^^^ b) hi (by omega)
  unfold bvI at this
  rw [this]
  rfl

theorem CopyA.far {b m : Nat} {path : List (List UInt8)} {A : Option Addr} {c g : Nat} {w w' : World} {t : TypeId} {cs : Array Value} (h : CopyA b m path A c w) (hB : Blk w g t cs) (ht : 23 ≠ t) (hf : Fr (fun k => k = g) w w') : CopyA b m path A c w' := by
  obtain ⟨q1, q2, q3⟩ := h
  refine ⟨q1, q2, ?_⟩
  rcases q3 with q3 | ⟨g', zs, hA, hg, hC⟩
  · exact .inl q3
  · exact .inr ⟨g', zs, hA, hg, hC.fr hf (fun e => by have e' : g' = g := e; subst e'; exact Blk.ne_ hC hB ht rfl)⟩

set_option maxRecDepth 100000 in
set_option maxHeartbeats 8000000 in
theorem LogtreeCollides_any (c : ClaimV) (pl by_ : Int) (w : World) (hc : c.good w) (hp : 0 ≤ pl ∧ pl ≤ 255) (hb : 0 ≤ by_ ∧ by_ ≤ 255) (hT : ShaTab w) : Calls Tryd.prog 6 #[c.val, .int .u8 pl, .int .u8 by_] w (Same' w (.bool true)) := by
  obtain ⟨leaf, ix, nn, A, len, cap, path⟩ := c
  obtain ⟨hleaf, hix, hnn, hD, hle, hcap⟩ := hc
  simp only at hleaf hix hnn hD hle hcap
  obtain ⟨pn, rfl⟩ : ∃ pn : Nat, pl = (pn : Int) := ⟨pl.toNat, by omega⟩
  obtain ⟨bb, rfl⟩ : ∃ bb : UInt8, by_ = ((bb.toNat : Nat) : Int) := ⟨UInt8.ofNat by_.toNat, by rw [UInt8.toNat_ofNat']; omega⟩
  unfold ClaimV.val
  simp only
  have CK : Hid (∀ w', Fr Nothing w w' → Calls Tryd.prog 15 #[] w' (Same' w' (.bool true))) := fun w' hf => known_any w' (hT.fr0 hf)
  have lL : (digC leaf).length = 32 := by rw [digC, List.length_map, hleaf]
  have LL := Lib.hid lL
  by_cases h30 : 30 < len
  · have t1 : decide ((30 : Int) < (len : Int)) = true := decide_eq_true (by omega)
    clear lL hleaf hix hnn hD hT hb
    generalize digC leaf = LV at *
    go_enter Tryd.func6, Tryd.ntmps6
    go_wp2_with (refine wpList_boxBlk rfl 40 (.tmp 0) rfl _ rfl ?_)
    intro w1 n1
    have B1 : Hid (Blk w1 w.heap.size 40 (LV ++ [Value.int .i64 ix, Value.int .i64 nn, Value.slice A len cap]).toArray) := n1.blk
    have F1 := Lib.hid n1.fr
    clear n1
    generalize hg1 : w.heap.size = g1 at *
    have HG1 := Lib.hid hg1
    clear hg1
    obtain ⟨x32, x33, x34, _⟩ := claim_cells B1.out LL.out
    go_wp2_with fail
    refine (CK.out _ F1.out).mono ?_
    rintro e w2 ⟨rfl, f2⟩
    have F2 := Lib.hid (F1.out.trans f2)
    have B2 := Lib.hid (B1.out.fr f2 (fun x => x))
    clear f2 F1 B1 x32 x33 x34
    obtain ⟨x32, x33, x34, _⟩ := claim_cells B2.out LL.out
    go_wp2_with fail
    refine (CK.out _ F2.out).mono ?_
    rintro e w3 ⟨rfl, f3⟩
    have F3 := Lib.hid (F2.out.trans f3)
    clear f3
    go_wp2
    go_ret
    exact ⟨rfl, F3.out⟩
  have hl30 : len ≤ 30 := by omega
  have t1 : decide ((30 : Int) < (len : Int)) = false := decide_eq_false (by omega)
  have HL := Lib.hid hD.len
  have HE := Lib.hid hD.each
  obtain ⟨kk, hkk⟩ : ∃ kk, kk = pn % (32 * (1 + len)) := ⟨_, rfl⟩
  have hk1 : kk < 32 * (1 + len) := by rw [hkk]; exact Nat.mod_lt _ (by omega)
  obtain ⟨leaf2, path2, h2a, h2b, hl2, lp2, e2, hsame⟩ := spoil_two leaf path kk bb len hleaf hD.len hD.each hk1
  have LAW := coll_law leaf leaf2 hleaf hl2 path path2 hD.each e2 (by rw [hD.len, lp2]) ix nn _ _ rfl rfl _ rfl
  have HL2 := Lib.hid lp2
  have HE2 := Lib.hid e2
  have CX1 : Hid (∀ w', Fr Nothing w w' → Calls Tryd.prog 23 #[digV leaf, .int .i64 ix, .int .i64 nn, .slice A len cap] w' (Same' w' (.tuple #[digV (nodesV leaf ix nn path).1, .int .i64 (nodesV leaf ix nn path).2.2]))) :=
    fun w' hf => rFrom_any leaf hleaf ix nn path len A cap _ w' (hD.fr0 hf) hle hcap
  have CX2 : Hid (∀ w' S' A' c', DigL w' S' A' len path2 → len ≤ c' → c' ≤ 9223372036854775807 → Calls Tryd.prog 23 #[digV leaf2, .int .i64 ix, .int .i64 nn, .slice A' len c'] w' (Same' w' (.tuple #[digV (nodesV leaf2 ix nn path2).1, .int .i64 (nodesV leaf2 ix nn path2).2.2]))) :=
    fun w' S' A' c' hD' h1 h2 => rFrom_any leaf2 hl2 ix nn path2 len A' c' S' w' hD' h1 h2
  have CO : Hid (∀ w', Fr Nothing w w' → Calls Tryd.prog 14 #[.slice A len cap] w' (Owned w' len path)) := fun w' hf => own_any len path A cap _ w' (hD.fr0 hf) (by omega)
  have CO2 : Hid (∀ w' S' A' c', DigL w' S' A' len path2 → Calls Tryd.prog 14 #[.slice A' len c'] w' (Owned w' len path2)) := fun w' S' A' c' hD' => own_any len path2 A' c' S' w' hD' (by omega)
  have CC : Hid (∀ w' Sa Aa ca Sb Ab cb, Fr Nothing w w' → DigL w' Sa Aa len path → DigL w' Sb Ab len path2 → Calls Tryd.prog 26 #[.int .i64 ix, .int .i64 nn, .agg (digC leaf ++ [Value.slice Aa len ca]).toArray, .agg (digC leaf2 ++ [Value.slice Ab len cb]).toArray] w' (Same' w' (.tuple #[.string ⟨(collV (nodesV leaf ix nn path).2.2 (nodesV leaf2 ix nn path2).2.2 (nodesV leaf ix nn path).1 (nodesV leaf2 ix nn path2).1 (nodesV leaf ix nn path).2.1 (nodesV leaf2 ix nn path2).2.1).1.toArray⟩, .string ⟨(collV (nodesV leaf ix nn path).2.2 (nodesV leaf2 ix nn path2).2.2 (nodesV leaf ix nn path).1 (nodesV leaf2 ix nn path2).1 (nodesV leaf ix nn path).2.1 (nodesV leaf2 ix nn path2).2.1).2.1.toArray⟩, .bool (collV (nodesV leaf ix nn path).2.2 (nodesV leaf2 ix nn path2).2.2 (nodesV leaf ix nn path).1 (nodesV leaf2 ix nn path2).1 (nodesV leaf ix nn path).2.1 (nodesV leaf2 ix nn path2).2.1).2.2]))) :=
    fun w' Sa Aa ca Sb Ab cb hf h1 h2 => Collision_any leaf leaf2 hleaf hl2 ix nn hnn path path2 len len Aa Ab ca cb Sa Sb w' h1 h2 (by omega) (by omega) (hT.fr0 hf) _ _ rfl rfl _ rfl
  have lra := nodesV_length leaf hleaf ix nn path hD.each
  have lrb := nodesV_length leaf2 hl2 ix nn path2 e2
  generalize collV (nodesV leaf ix nn path).2.2 (nodesV leaf2 ix nn path2).2.2 (nodesV leaf ix nn path).1 (nodesV leaf2 ix nn path2).1 (nodesV leaf ix nn path).2.1 (nodesV leaf2 ix nn path2).2.1 = r at *
  generalize (nodesV leaf ix nn path).1 = ra at *
  generalize (nodesV leaf ix nn path).2.2 = E at *
  generalize (nodesV leaf2 ix nn path2).1 = rb at *
  generalize (nodesV leaf2 ix nn path2).2.2 = E2 at *
  obtain ⟨hEE, n1', n2', n3', y1'⟩ := LAW
  subst hEE
  obtain ⟨XS, hXS⟩ : ∃ XS : ByteArray, XS = ⟨r.1.toArray⟩ := ⟨_, rfl⟩
  obtain ⟨YS, hYS⟩ : ∃ YS : ByteArray, YS = ⟨r.2.1.toArray⟩ := ⟨_, rfl⟩
  obtain ⟨ok, hok⟩ : ∃ ok : Bool, ok = r.2.2 := ⟨_, rfl⟩
  rw [← hXS, ← hYS, ← hok] at CC
  have NO : Hid ((E ≠ 0 ∨ ra ≠ rb ∨ bb = 0) → XS = ⟨#[]⟩ ∧ YS = ⟨#[]⟩ ∧ ok = false) := by
    intro h
    have hr : r = ([], [], false) := by
      rcases h with h | h | h
      · exact n1' h
      · exact n2' h
      · exact n3' (hsame.2 h)
    rw [hXS, hYS, hok, hr]
    exact ⟨rfl, rfl, rfl⟩
  have qs' : ∀ (q : List UInt8) (_ : q.length = 32) (w : World), (binOp .eql 23 (digV q) (digV q)).run Tryd.prog w = .ok (.bool true) w := fun q hq w => by rw [run_eqD w _ Tryd.underlying23 q q hq hq, decide_eq_true rfl]
  have qs : Hid (∀ w : World, (binOp .eql 23 (.agg (digC (shaL r.1)).toArray) (.agg (digC (shaL r.1)).toArray)).run Tryd.prog w = .ok (.bool true) w) := qs' (shaL r.1) (shaL_length _)
  have YES : Hid (E = 0 → ra = rb → bb ≠ 0 → ok = true ∧ (!XS.toList == YS.toList) = true ∧ Hid (∀ w', Calls Tryd.prog 27 #[.string XS] w' (Same' w' (.agg (digC (shaL r.1)).toArray))) ∧ Hid (∀ w', Calls Tryd.prog 27 #[.string YS] w' (Same' w' (.agg (digC (shaL r.1)).toArray)))) := by
    intro h1 h2 h3
    obtain ⟨k1, k2, k3, k4, k5⟩ := y1' h1 h2 (fun h => h3 (hsame.1 h))
    have tx : ∀ l : List UInt8, txL (⟨l.toArray⟩ : ByteArray) = l := fun l => by simp [txL]
    refine ⟨by rw [hok, k1], ?_, fun w' => ?_, fun w' => ?_⟩
    · rw [hXS, hYS]
      have : (ByteArray.mk r.1.toArray).toList ≠ (ByteArray.mk r.2.1.toArray).toList := by
        rw [ByteArray.toList_eq, ByteArray.toList_eq]
        simpa using k2
      simpa using this
    · have := refSum_any XS w' (by rw [hXS]; simp only [ByteArray.size, List.size_toArray]; omega)
      rw [hXS, tx] at this
      rw [hXS]
      exact this
    · have := refSum_any YS w' (by rw [hYS]; simp only [ByteArray.size, List.size_toArray]; omega)
      rw [hYS, tx, ← k3] at this
      rw [hYS]
      exact this
  generalize hQV : digC (shaL r.1) = QV at *
  have DA : Hid (Dig (digC ra).toArray) := Dig.of lra
  have DB : Hid (Dig (digC rb).toArray) := Dig.of lrb
  have IRA : Hid ((Tryd.prog.info? 23).map (·.size) = some (digC ra).length) := by rw [digC, List.length_map, lra]; exact info32
  have IRB : Hid ((Tryd.prog.info? 23).map (·.size) = some (digC rb).length) := by rw [digC, List.length_map, lrb]; exact info32
  have HLV : Hid ((Tryd.prog.info? 23).map (·.size) = some (digC leaf).length) := by rw [lL]; exact info32
  have LL2 : Hid ((digC leaf2).length = 32) := by simp [Hid, digC, hl2]
  have HLV2 : Hid ((Tryd.prog.info? 23).map (·.size) = some (digC leaf2).length) := by rw [LL2.out]; exact info32
  have qn : Hid (∀ w : World, (binOp .neq 23 (digV ra) (digV rb)).run Tryd.prog w = .ok (.bool (!decide (ra = rb))) w) := fun w => run_neD w _ Tryd.underlying23 ra rb lra lrb
  have HD := Lib.hid hD
  have HN4 : Hid (len ≤ 1048576) := by simp only [Hid]; omega
  have H2A := Lib.hid h2a
  have H2B := Lib.hid h2b
  have HK1 := Lib.hid hk1
  have HLF := Lib.hid hleaf
  clear qs' n1' n2' n3' y1' lra lrb hQV hsame hXS hYS hok hl2 lp2 e2 h2a h2b hD hT hix hnn hle hcap h30 hleaf
  unfold digV at *
  simp only [show ∀ l : List UInt8, l.map bvI = digC l from fun _ => rfl] at *
  generalize hRA : digC ra = RA at *
  generalize hRB : digC rb = RB at *
  clear hRA hRB
  generalize hLV : digC leaf = LV at *
  generalize hLV2 : digC leaf2 = LV2 at *
  have ELV := Lib.hid hLV
  have ELV2 := Lib.hid hLV2
  clear hLV hLV2 lL
  go_enter Tryd.func6, Tryd.ntmps6
  go_wp2_with (refine wpList_boxBlk rfl 40 (.tmp 0) rfl _ rfl ?_)
  intro w1 n1
  have B1 : Hid (Blk w1 w.heap.size 40 (LV ++ [Value.int .i64 ix, Value.int .i64 nn, Value.slice A len cap]).toArray) := n1.blk
  have F1 := Lib.hid n1.fr
  clear n1
  generalize hg1 : w.heap.size = g1 at *
  have HG1 := Lib.hid hg1
  clear hg1
  obtain ⟨x32, x33, x34, _⟩ := claim_cells B1.out LL.out
  go_wp2_with fail
  refine (CK.out _ F1.out).mono ?_
  rintro e w2 ⟨rfl, f2⟩
  have F2 := Lib.hid (F1.out.trans f2)
  have B2 := Lib.hid (B1.out.fr f2 (fun x => x))
  clear f2 F1 B1 x32 x33 x34
  obtain ⟨x32, x33, x34, _⟩ := claim_cells B2.out LL.out
  have C32 : Hid (∀ w', Fr Nothing w2 w' → w'.cell? ⟨g1, 32, none⟩ = some (.int .i64 ix)) := fun w' hf => hf.cellSome x32 (fun x => x)
  have C33 : Hid (∀ w', Fr Nothing w2 w' → w'.cell? ⟨g1, 33, none⟩ = some (.int .i64 nn)) := fun w' hf => hf.cellSome x33 (fun x => x)
  have C34 : Hid (∀ w', Fr Nothing w2 w' → w'.cell? ⟨g1, 34, none⟩ = some (.slice A len cap)) := fun w' hf => hf.cellSome x34 (fun x => x)
  have RG : Hid (∀ w', Fr Nothing w2 w' → w'.rangeAt g1 0 LV) := fun w' hf => (claim_cells (B2.out.fr hf (fun x => x)) LL.out).2.2.2
  go_upto_region 3 with fail
  clear x32 x33 x34
  refine wp_region_st 12 Nothing [Is (.pointer (some ⟨g1, 0, none⟩)), Is (.agg LV.toArray), Is (.pointer (some ⟨g1, 32, none⟩)), Is (.int .i64 ix), Is (.pointer (some ⟨g1, 33, none⟩)), Is (.int .i64 nn), fun v _ => ∃ b : Addr, v = .slice (some b) 0 0, Is (.pointer (some ⟨g1, 34, none⟩)), Is (.slice A len cap), CopyS w2.heap.size len path, ClaimS LV ix nn w2.heap.size len path, fun v W => ∃ g, v = .pointer (some ⟨g, 0, none⟩) ∧ w2.heap.size ≤ g ∧ Blk W g 40 zeroClaim] [] (fun _ => True) (fun _ _ => false) (by kernel_rfl) (by kernel_rfl) (by kernel_rfl) (by kernel_rfl) ⟨Is.stable _, Is.stable _, Is.stable _, Is.stable _, Is.stable _, Is.stable _, fun _ _ _ _ _ h => h, Is.stable _, Is.stable _, CopyS.stable, ClaimS.stable, fun v w' w'' _ hf ⟨g, h, l, b⟩ => ⟨g, h, l, b.fr hf (fun x => x)⟩, trivial⟩ trivial (fun _ _ _ _ h => h) trivial ?_ ?_
  · refine ⟨fun u w' d hf hR k1 k0 kM => ?_, fun u w' d hf hR k1 k0 kM => ?_, fun u w' d hf hR k1 k0 kM => ?_, fun u w' d hf hR k1 k0 kM => ?_, fun u w' d hf hR k1 k0 kM => ?_, fun u w' d hf hR k1 k0 kM => ?_, fun u w' d hf hR k1 k0 kM => ?_, fun u w' d hf hR k1 k0 kM => ?_, fun u w' d hf hR k1 k0 kM => ?_, fun u w' d hf hR k1 k0 kM => ?_, fun u w' d hf hR k1 k0 kM => ?_, fun u w' d hf hR k1 k0 kM => ?_, trivial⟩
    all_goals simp only [List.take_succ_cons, List.take_zero, List.map_cons, List.map_nil, puts, Act.put, List.setIfInBounds_toArray, List.set_cons_zero, List.set_cons_succ, Nat.reduceAdd, Nat.zero_add]
    · clear hR k1 k0 kM
      refine .inl ⟨by kernel_rfl, ?_⟩
      go_simp
      exact ⟨_, rfl, Fr.refl _ _, rfl, trivial⟩
    · have h0 : u 0 = _ := hR 0 (by kernel_rfl)
      clear hR k1 k0 kM
      simp only [h0]
      refine .inl ⟨by kernel_rfl, ?_⟩
      exact wp_load_mid _ _ rfl g1 0 rfl LV _ (RG.out _ hf) Tryd.underlying23 rfl HLV.out ⟨_, rfl, Fr.refl _ _, rfl, trivial⟩
    · clear hR k1 k0 kM
      refine .inl ⟨by kernel_rfl, ?_⟩
      go_simp
      exact ⟨_, rfl, Fr.refl _ _, rfl, trivial⟩
    · have h2 : u 2 = _ := hR 2 (by kernel_rfl)
      clear hR k1 k0 kM
      simp only [h2]
      refine .inl ⟨by kernel_rfl, ?_⟩
      have hc := C32.out _ hf
      go_simp
      exact ⟨_, rfl, Fr.refl _ _, rfl, trivial⟩
    · clear hR k1 k0 kM
      refine .inl ⟨by kernel_rfl, ?_⟩
      go_simp
      exact ⟨_, rfl, Fr.refl _ _, rfl, trivial⟩
    · have h4 : u 4 = _ := hR 4 (by kernel_rfl)
      clear hR k1 k0 kM
      simp only [h4]
      refine .inl ⟨by kernel_rfl, ?_⟩
      have hc := C33.out _ hf
      go_simp
      exact ⟨_, rfl, Fr.refl _ _, rfl, trivial⟩
    · clear hR k1 k0 kM
      refine .inl ⟨by kernel_rfl, ?_⟩
      go_simp
      exact ⟨_, rfl, (Fr.refl _ _).alloc _, ⟨_, rfl⟩, trivial⟩
    · clear hR k1 k0 kM
      refine .inl ⟨by kernel_rfl, ?_⟩
      go_simp
      exact ⟨_, rfl, Fr.refl _ _, rfl, trivial⟩
    · have h7 : u 7 = _ := hR 7 (by kernel_rfl)
      clear hR k1 k0 kM
      simp only [h7]
      refine .inl ⟨by kernel_rfl, ?_⟩
      have hc := C34.out _ hf
      go_simp
      exact ⟨_, rfl, Fr.refl _ _, rfl, trivial⟩
    · obtain ⟨b6, h6⟩ := hR 6 (by kernel_rfl)
      have h8 : u 8 = _ := hR 8 (by kernel_rfl)
      clear hR k1 k0 kM
      simp only [h6, h8]
      refine .inl ⟨by kernel_rfl, ?_⟩
      refine wp_copyD _ _ rfl b6 rfl A len cap rfl _ path (HD.out.fr0 (F2.out.trans hf)) HN4.out ?_
      intro v' w'' hf2 hC
      exact ⟨_, rfl, hf2, CopyS.low hC hf.size, trivial⟩
    · have h1 : u 1 = _ := hR 1 (by kernel_rfl)
      have h3 : u 3 = _ := hR 3 (by kernel_rfl)
      have h5 : u 5 = _ := hR 5 (by kernel_rfl)
      obtain ⟨A9, c9, h9, k9⟩ := hR 9 (by kernel_rfl)
      clear hR k1 k0 kM
      simp only [h1, h3, h5, h9]
      refine .inl ⟨by kernel_rfl, ?_⟩
      exact wp_buildTo 40 #[(0, .tmp 26), (1, .tmp 28), (2, .tmp 30), (3, .tmp 34)] rfl _ (by simp only [List.map_toArray, List.map_cons, List.map_nil]; exact built_claim LV LL.out ix nn A9 len c9) ⟨_, rfl, Fr.refl _ _, ⟨A9, c9, rfl, k9⟩, trivial⟩
    · clear hR k1 k0 kM
      refine .inl ⟨by kernel_rfl, ?_⟩
      refine wp_allocBlk 40 rfl (.agg zeroClaim) zvClaim zeroClaim rfl ?_
      intro w4 n4
      exact ⟨_, rfl, n4.fr, ⟨_, rfl, hf.size, n4.blk⟩, trivial⟩
  · intro u w' hf hR kM
    obtain ⟨A7, c7, h10, k10⟩ := hR 10 (by omega)
    obtain ⟨g7, h11, l7, b7⟩ := hR 11 (by omega)
    have B7' : Hid (Blk w' g7 40 zeroClaim) := b7
    have F3 := Lib.hid (F2.out.trans hf)
    have B13 := Lib.hid (B2.out.fr hf (fun x => x))
    have K10 := Lib.hid k10
    have L7 := Lib.hid l7
    have S2 : Hid (g1 < w2.heap.size ∧ w.heap.size ≤ w2.heap.size) := ⟨B2.out.lt, F2.out.size⟩
    clear hR kM hf b7 k10 l7 C32 C33 C34 RG B2 F2
    simp only [List.take_succ_cons, List.take_zero, List.map_cons, List.map_nil, puts, Act.put, List.setIfInBounds_toArray, List.set_cons_zero, List.set_cons_succ, List.drop_succ_cons, List.drop_zero, Nat.reduceAdd, Nat.zero_add, h10, h11]
    have O7 : Hid ((LV ++ [Value.int .i64 ix, Value.int .i64 nn, Value.slice A7 len c7]).toArray.all (·.oneCell') = true ∧ (LV ++ [Value.int .i64 ix, Value.int .i64 nn, Value.slice A7 len c7]).toArray.size = 35) := by
      refine ⟨?_, by simp [LL.out]⟩
      rw [Array.all_eq_true_iff_forall_mem]
      intro u hu
      have hu' : u ∈ LV ++ [Value.int .i64 ix, Value.int .i64 nn, Value.slice A7 len c7] := by simpa using hu
      rcases List.mem_append.1 hu' with h | h
      · rw [← ELV.out] at h
        exact digC_one _ u h
      · simp only [List.mem_cons, List.not_mem_nil, or_false] at h
        rcases h with rfl | rfl | rfl <;> rfl
    refine wpList_storeBlk rfl 40 (.tmp 7) (.tmp 35) rfl g7 (LV ++ [Value.int .i64 ix, Value.int .i64 nn, Value.slice A7 len c7]).toArray rfl rfl _ _ B7'.out (by rw [O7.out.2]; exact infoClaim) (by rw [O7.out.2]; rfl) O7.out.1 ?_
    intro wx bx fx
    have B7 := Lib.hid bx
    have B1 := Lib.hid (B13.out.fr fx (fun e => by have e' : g1 = g7 := e; have := S2.out; have := L7.out; omega))
    have FX : Hid (Fr Nothing w wx) := F3.out.then_ fx (fun i hi e => by have e' : i = g7 := e; have := S2.out; have := L7.out; omega)
    have K7 : Hid (CopyA w2.heap.size len path A7 c7 wx) := by
      obtain ⟨q1, q2, q3⟩ := K10.out
      refine ⟨q1, q2, ?_⟩
      rcases q3 with q3 | ⟨g, zs, hA, hg, hB⟩
      · exact .inl q3
      · exact .inr ⟨g, zs, hA, hg, hB.fr fx (fun e => by have e' : g = g7 := e; subst e'; exact Blk.ne_ (t := 23) hB B7'.out (by decide) rfl)⟩
    clear bx fx B13 F3 K10 B7' O7
    have DD : Hid (32 * (1 + len) ≤ 1000) := by simp only [Hid]; omega
    obtain ⟨L1, hL1⟩ : ∃ L1 : Nat, (1 : Int) + (len : Int) = (L1 : Int) := ⟨1 + len, by omega⟩
    obtain ⟨DV, hDV⟩ : ∃ DV : Nat, (32 : Int) * (L1 : Int) = (DV : Int) := ⟨32 * L1, by omega⟩
    have hmod : (pn : Int).tmod (DV : Int) = (kk : Int) := by
      rw [Int.tmod_eq_emod_of_nonneg (by omega)]
      have : DV = 32 * (1 + len) := by omega
      rw [this, hkk]
      exact (Int.natCast_emod _ _).symm
    have hn0 : (DV = 0) = False := eq_false (by omega)
    have hn1 : ((DV : Int) = 0) = False := eq_false (by omega)
    have pn4 : pn ≤ 255 := by omega
    have d4 : DV ≤ 1000 := by have := DD.out; omega
    have kk4 : kk ≤ 1000 := by have := DD.out; have := HK1.out; omega
    obtain ⟨y32, y33, y34, _⟩ := claim_cells B7.out LL.out
    clear hkk hk1
    have HC7 : Hid (len ≤ c7 ∧ c7 ≤ 9223372036854775807) := ⟨K7.out.1, K7.out.2.1⟩
    by_cases hk32 : kk < 32
    · have t32 : decide ((kk : Int) < 32) = true := decide_eq_true (by omega)
      obtain ⟨e1, e2⟩ := H2A.out hk32
      have yk : wx.cell? ⟨g7, kk, none⟩ = some (.int .u8 (((leaf.getD kk 0).toNat : Nat) : Int)) := by
        have h := B7.out
        rw [← ELV.out] at h
        exact claim_set (by rw [HLF.out]; exact hk32) h
      obtain ⟨ob, hob⟩ : ∃ ob, ob = leaf.getD kk 0 := ⟨_, rfl⟩
      rw [← hob] at yk
      have hx := xor_u8 ob bb
      have PUT : Hid ((LV ++ [Value.int .i64 ix, Value.int .i64 nn, Value.slice A7 len c7]).toArray.setIfInBounds kk (.int .u8 (((ob ^^^ bb).toNat : Nat) : Int)) = (LV2 ++ [Value.int .i64 ix, Value.int .i64 nn, Value.slice A7 len c7]).toArray) := by
        simp only [Hid]
        rw [← ELV.out, ← ELV2.out, e1, hob]
        exact claim_put leaf _ kk bb (by rw [HLF.out]; exact hk32)
      have SZ7 : Hid (kk < (LV ++ [Value.int .i64 ix, Value.int .i64 nn, Value.slice A7 len c7]).toArray.size) := by simp only [Hid, List.size_toArray, List.length_append, LL.out]; omega
      have HE2' := Lib.hid e2
      clear e1 e2 hob
      go_wp2_with (refine wpList_storeFld rfl 5 _ _ rfl g7 kk _ rfl rfl rfl infoU1 _ _ _ B7.out SZ7.out PUT.out ?_)
      intro wy by' fy
      have K7y := Lib.hid (K7.out.far B7.out (by decide) fy)
      obtain ⟨S7, D7⟩ := K7y.out.dig HL.out HE.out
      have HX : Hid (CoW w wy g1 g7 (LV ++ [Value.int .i64 ix, Value.int .i64 nn, Value.slice A len cap]) (LV2 ++ [Value.int .i64 ix, Value.int .i64 nn, Value.slice A7 len c7]) S7 A7 len path2) :=
        ⟨FX.out.then_ fy (fun i hi e => by have e' : i = g7 := e; have := S2.out; have := L7.out; omega), B1.out.fr fy (fun e => by have e' : g1 = g7 := e; have := S2.out; have := L7.out; omega), by', by rw [HE2'.out]; exact D7⟩
      clear D7 by' fy yk hx PUT SZ7 HE2' B7 B1 FX K7 K7y y32 y33 y34 t32 hk32 H2A H2B ELV ELV2 S2 L7
      obtain ⟨x32, x33, x34, xr⟩ := claim_cells HX.out.b1 LL.out
      go_wp2_with (refine wpList_load_add rfl 23 (.tmp 69) rfl ⟨g1, 0, none⟩ rfl LV _ (range_add xr) Tryd.underlying23 rfl HLV.out ?_)
      go_wp2_with fail
      refine (CX1.out _ HX.out.fr).mono ?_
      rintro e wa ⟨rfl, fa⟩
      have HXa := Lib.hid (HX.out.later fa)
      clear fa HX x32 x33 x34 xr
      go_wp2_with (refine wpList_allocBlk rfl 23 rfl zero32 zv32 zero32c rfl ?_)
      intro wb nb
      have B9 := Lib.hid nb.blk
      have HXb := Lib.hid (HXa.out.later nb.fr)
      have SZ : Hid (wa.heap.size < wb.heap.size) := nb.blk.lt
      have NF := Lib.hid nb.fr
      clear nb
      generalize hga : wa.heap.size = g9 at *
      have HG9 := Lib.hid hga
      clear hga
      go_wp2_with (refine wpList_storeBlk rfl 23 (.tmp 9) _ rfl g9 RA.toArray rfl rfl _ _ B9.out DA.out.infoR DA.out.zero DA.out.one ?_)
      intro wc bc fc
      have J9c := Lib.hid bc
      have HXc : Hid (CoW w wc g1 g7 (LV ++ [Value.int .i64 ix, Value.int .i64 nn, Value.slice A len cap]) (LV2 ++ [Value.int .i64 ix, Value.int .i64 nn, Value.slice A7 len c7]) S7 A7 len path2) := HXa.out.later (NF.out.then_ fc (fun i hi e => by have e' : i = g9 := e; have := HG9.out; omega))
      clear bc fc B9 HXa HXb SZ NF HG9
      obtain ⟨x32, x33, x34, xr⟩ := claim_cells HXc.out.b7 LL2.out
      go_wp2_with (refine wpList_load_add rfl 23 (.tmp 81) rfl ⟨g7, 0, none⟩ rfl LV2 _ (range_add xr) Tryd.underlying23 rfl HLV2.out ?_)
      go_wp2_with fail
      refine (CX2.out _ _ _ _ HXc.out.dig HC7.out.1 HC7.out.2).mono ?_
      rintro e wd ⟨rfl, fd⟩
      have HXd := Lib.hid (HXc.out.later fd)
      have J9d := Lib.hid (J9c.out.fr fd (fun x => x))
      clear fd HXc J9c x32 x33 x34 xr
      go_wp2_with (refine wpList_allocBlk rfl 23 rfl zero32 zv32 zero32c rfl ?_)
      intro we ne
      have B11 := Lib.hid ne.blk
      have NF := Lib.hid ne.fr
      have L9 : Hid (g9 < wd.heap.size) := J9d.out.lt
      have J9e := Lib.hid (J9d.out.fr ne.fr (fun x => x))
      clear ne J9d
      generalize hga : wd.heap.size = g11 at *
      have HG11 := Lib.hid hga
      clear hga
      go_wp2_with (refine wpList_storeBlk rfl 23 (.tmp 11) _ rfl g11 RB.toArray rfl rfl _ _ B11.out DB.out.infoR DB.out.zero DB.out.one ?_)
      intro wf bf ff
      have J11f := Lib.hid bf
      have J9f := Lib.hid (J9e.out.fr ff (fun e => by have e' : g9 = g11 := e; have := L9.out; omega))
      have HZ : Hid (CoW w wf g1 g7 (LV ++ [Value.int .i64 ix, Value.int .i64 nn, Value.slice A len cap]) (LV2 ++ [Value.int .i64 ix, Value.int .i64 nn, Value.slice A7 len c7]) S7 A7 len path2) := HXd.out.later (NF.out.then_ ff (fun i hi e => by have e' : i = g11 := e; have := HG11.out; omega))
      clear bf ff B11 HXd NF L9 J9e HG11
      go_upto_region 10 with fail
      refine wp_region_st 24 Nothing [Is (.pointer (some ⟨g1, 32, none⟩)), Is (.int .i64 ix), Is (.pointer (some ⟨g1, 33, none⟩)), Is (.int .i64 nn), Is (.pointer (some ⟨g1, 0, none⟩)), Is (.agg LV.toArray), Is (.pointer (some ⟨g1, 34, none⟩)), Is (.slice A len cap), OwnS len path, ProofS LV len path, Is (.pointer (some ⟨g7, 0, none⟩)), Is (.agg LV2.toArray), Is (.pointer (some ⟨g7, 34, none⟩)), Is (.slice A7 len c7), OwnS len path2, ProofS LV2 len path2, Is (.tuple #[.string XS, .string YS, .bool ok]), Is (.tuple #[.string XS, .string YS, .bool ok]), Is (.string XS), Is (.string YS), Is (.bool ok), Is (.string XS), Is (.string YS), Is (.bool ok)] [] (fun _ => True) (fun _ _ => false) (by kernel_rfl) (by kernel_rfl) (by kernel_rfl) (by kernel_rfl) ⟨Is.stable _, Is.stable _, Is.stable _, Is.stable _, Is.stable _, Is.stable _, Is.stable _, Is.stable _, OwnS.stable, ProofS.stable, Is.stable _, Is.stable _, Is.stable _, Is.stable _, OwnS.stable, ProofS.stable, Is.stable _, Is.stable _, Is.stable _, Is.stable _, Is.stable _, Is.stable _, Is.stable _, Is.stable _, trivial⟩ trivial (fun _ _ _ _ h => h) trivial ?_ ?_
      · refine ⟨fun u w' d hf hR k1 k0 kM => ?_, fun u w' d hf hR k1 k0 kM => ?_, fun u w' d hf hR k1 k0 kM => ?_, fun u w' d hf hR k1 k0 kM => ?_, fun u w' d hf hR k1 k0 kM => ?_, fun u w' d hf hR k1 k0 kM => ?_, fun u w' d hf hR k1 k0 kM => ?_, fun u w' d hf hR k1 k0 kM => ?_, fun u w' d hf hR k1 k0 kM => ?_, fun u w' d hf hR k1 k0 kM => ?_, fun u w' d hf hR k1 k0 kM => ?_, fun u w' d hf hR k1 k0 kM => ?_, fun u w' d hf hR k1 k0 kM => ?_, fun u w' d hf hR k1 k0 kM => ?_, fun u w' d hf hR k1 k0 kM => ?_, fun u w' d hf hR k1 k0 kM => ?_, fun u w' d hf hR k1 k0 kM => ?_, fun u w' d hf hR k1 k0 kM => ?_, fun u w' d hf hR k1 k0 kM => ?_, fun u w' d hf hR k1 k0 kM => ?_, fun u w' d hf hR k1 k0 kM => ?_, fun u w' d hf hR k1 k0 kM => ?_, fun u w' d hf hR k1 k0 kM => ?_, fun u w' d hf hR k1 k0 kM => ?_, trivial⟩
        all_goals simp only [List.take_succ_cons, List.take_zero, List.map_cons, List.map_nil, puts, Act.put, List.setIfInBounds_toArray, List.set_cons_zero, List.set_cons_succ, Nat.reduceAdd, Nat.zero_add]
        · clear hR k1 k0 kM
          refine .inl ⟨by kernel_rfl, ?_⟩
          go_simp
          exact ⟨_, rfl, Fr.refl _ _, rfl, trivial⟩
        · have h0 : u 0 = _ := hR 0 (by kernel_rfl)
          clear hR k1 k0 kM
          simp only [h0]
          refine .inl ⟨by kernel_rfl, ?_⟩
          have hc := (claim_cells (HZ.out.later hf).b1 LL.out).1
          go_simp
          exact ⟨_, rfl, Fr.refl _ _, rfl, trivial⟩
        · clear hR k1 k0 kM
          refine .inl ⟨by kernel_rfl, ?_⟩
          go_simp
          exact ⟨_, rfl, Fr.refl _ _, rfl, trivial⟩
        · have h2 : u 2 = _ := hR 2 (by kernel_rfl)
          clear hR k1 k0 kM
          simp only [h2]
          refine .inl ⟨by kernel_rfl, ?_⟩
          have hc := (claim_cells (HZ.out.later hf).b1 LL.out).2.1
          go_simp
          exact ⟨_, rfl, Fr.refl _ _, rfl, trivial⟩
        · clear hR k1 k0 kM
          refine .inl ⟨by kernel_rfl, ?_⟩
          go_simp
          exact ⟨_, rfl, Fr.refl _ _, rfl, trivial⟩
        · have h4 : u 4 = _ := hR 4 (by kernel_rfl)
          clear hR k1 k0 kM
          simp only [h4]
          refine .inl ⟨by kernel_rfl, ?_⟩
          exact wp_load_mid _ _ rfl g1 0 rfl LV _ (claim_cells (HZ.out.later hf).b1 LL.out).2.2.2 Tryd.underlying23 rfl HLV.out ⟨_, rfl, Fr.refl _ _, rfl, trivial⟩
        · clear hR k1 k0 kM
          refine .inl ⟨by kernel_rfl, ?_⟩
          go_simp
          exact ⟨_, rfl, Fr.refl _ _, rfl, trivial⟩
        · have h6 : u 6 = _ := hR 6 (by kernel_rfl)
          clear hR k1 k0 kM
          simp only [h6]
          refine .inl ⟨by kernel_rfl, ?_⟩
          have hc := (claim_cells (HZ.out.later hf).b1 LL.out).2.2.1
          go_simp
          exact ⟨_, rfl, Fr.refl _ _, rfl, trivial⟩
        · have h7 : u 7 = _ := hR 7 (by kernel_rfl)
          clear hR k1 k0 kM
          simp only [h7]
          refine .inl ⟨by kernel_rfl, ?_⟩
          go_simp
          refine (CO.out _ (HZ.out.later hf).fr).mono ?_
          rintro e w4 ⟨v, rfl, hG⟩
          exact ⟨_, rfl, hG.fr0, OwnS.of hG HL.out HE.out, trivial⟩
        · have h5 : u 5 = _ := hR 5 (by kernel_rfl)
          obtain ⟨A8, c8, h8, l8, m8, T8, D8⟩ := hR 8 (by kernel_rfl)
          clear hR k1 k0 kM
          simp only [h5, h8]
          refine .inl ⟨by kernel_rfl, ?_⟩
          exact wp_buildTo 52 #[(0, .tmp 98), (1, .tmp 101)] rfl _ (by simp only [List.map_toArray, List.map_cons, List.map_nil]; exact built_proof LV LL.out A8 len c8) ⟨_, rfl, Fr.refl _ _, ⟨A8, c8, rfl, _, D8⟩, trivial⟩
        · clear hR k1 k0 kM
          refine .inl ⟨by kernel_rfl, ?_⟩
          go_simp
          exact ⟨_, rfl, Fr.refl _ _, rfl, trivial⟩
        · have h10 : u 10 = _ := hR 10 (by kernel_rfl)
          clear hR k1 k0 kM
          simp only [h10]
          refine .inl ⟨by kernel_rfl, ?_⟩
          exact wp_load_mid _ _ rfl g7 0 rfl LV2 _ (claim_cells (HZ.out.later hf).b7 LL2.out).2.2.2 Tryd.underlying23 rfl HLV2.out ⟨_, rfl, Fr.refl _ _, rfl, trivial⟩
        · clear hR k1 k0 kM
          refine .inl ⟨by kernel_rfl, ?_⟩
          go_simp
          exact ⟨_, rfl, Fr.refl _ _, rfl, trivial⟩
        · have h12 : u 12 = _ := hR 12 (by kernel_rfl)
          clear hR k1 k0 kM
          simp only [h12]
          refine .inl ⟨by kernel_rfl, ?_⟩
          have hc := (claim_cells (HZ.out.later hf).b7 LL2.out).2.2.1
          go_simp
          exact ⟨_, rfl, Fr.refl _ _, rfl, trivial⟩
        · have h13 : u 13 = _ := hR 13 (by kernel_rfl)
          clear hR k1 k0 kM
          simp only [h13]
          refine .inl ⟨by kernel_rfl, ?_⟩
          go_simp
          refine (CO2.out _ _ _ _ (HZ.out.later hf).dig).mono ?_
          rintro e w4 ⟨v, rfl, hG⟩
          exact ⟨_, rfl, hG.fr0, OwnS.of hG HL2.out HE2.out, trivial⟩
        · have h11 : u 11 = _ := hR 11 (by kernel_rfl)
          obtain ⟨A14, c14, h14, l14, m14, T14, D14⟩ := hR 14 (by kernel_rfl)
          clear hR k1 k0 kM
          simp only [h11, h14]
          refine .inl ⟨by kernel_rfl, ?_⟩
          exact wp_buildTo 52 #[(0, .tmp 104), (1, .tmp 107)] rfl _ (by simp only [List.map_toArray, List.map_cons, List.map_nil]; exact built_proof LV2 LL2.out A14 len c14) ⟨_, rfl, Fr.refl _ _, ⟨A14, c14, rfl, _, D14⟩, trivial⟩
        · have h1 : u 1 = _ := hR 1 (by kernel_rfl)
          have h3 : u 3 = _ := hR 3 (by kernel_rfl)
          obtain ⟨A9, c9, h9, T9, D9⟩ := hR 9 (by kernel_rfl)
          obtain ⟨A15, c15, h15, T15, D15⟩ := hR 15 (by kernel_rfl)
          clear hR k1 k0 kM
          simp only [h1, h3, h9, h15]
          refine .inl ⟨by kernel_rfl, ?_⟩
          go_simp
          refine (CC.out _ _ _ _ _ _ _ (HZ.out.later hf).fr D9 D15).mono ?_
          rintro e w4 ⟨rfl, f4⟩
          exact ⟨_, rfl, f4.weak, rfl, trivial⟩
        · have h16 : u 16 = _ := hR 16 (by kernel_rfl)
          clear hR k1 k0 kM
          simp only [h16]
          refine .inl ⟨by kernel_rfl, ?_⟩
          go_simp
          exact ⟨_, rfl, Fr.refl _ _, rfl, trivial⟩
        · have h17 : u 17 = _ := hR 17 (by kernel_rfl)
          clear hR k1 k0 kM
          simp only [h17]
          refine .inl ⟨by kernel_rfl, ?_⟩
          go_simp
          exact ⟨_, rfl, Fr.refl _ _, rfl, trivial⟩
        · have h17 : u 17 = _ := hR 17 (by kernel_rfl)
          clear hR k1 k0 kM
          simp only [h17]
          refine .inl ⟨by kernel_rfl, ?_⟩
          go_simp
          exact ⟨_, rfl, Fr.refl _ _, rfl, trivial⟩
        · have h17 : u 17 = _ := hR 17 (by kernel_rfl)
          clear hR k1 k0 kM
          simp only [h17]
          refine .inl ⟨by kernel_rfl, ?_⟩
          go_simp
          exact ⟨_, rfl, Fr.refl _ _, rfl, trivial⟩
        · have h18 : u 18 = _ := hR 18 (by kernel_rfl)
          clear hR k1 k0 kM
          simp only [h18]
          refine .inl ⟨by kernel_rfl, ?_⟩
          go_simp
          exact ⟨_, rfl, Fr.refl _ _, rfl, trivial⟩
        · have h19 : u 19 = _ := hR 19 (by kernel_rfl)
          clear hR k1 k0 kM
          simp only [h19]
          refine .inl ⟨by kernel_rfl, ?_⟩
          go_simp
          exact ⟨_, rfl, Fr.refl _ _, rfl, trivial⟩
        · have h20 : u 20 = _ := hR 20 (by kernel_rfl)
          clear hR k1 k0 kM
          simp only [h20]
          refine .inl ⟨by kernel_rfl, ?_⟩
          go_simp
          exact ⟨_, rfl, Fr.refl _ _, rfl, trivial⟩
      · intro u w' hf hR kM
        have h21 : u 21 = _ := hR 21 (by omega)
        have h22 : u 22 = _ := hR 22 (by omega)
        have h23 : u 23 = _ := hR 23 (by omega)
        clear hR kM
        simp only [List.take_succ_cons, List.take_zero, List.map_cons, List.map_nil, puts, Act.put, List.setIfInBounds_toArray, List.set_cons_zero, List.set_cons_succ, List.drop_succ_cons, List.drop_zero, Nat.reduceAdd, Nat.zero_add, h21, h22, h23]
        have HY := Lib.hid (HZ.out.later hf)
        have J9 := Lib.hid (J9f.out.fr hf (fun x => x))
        have J11 := Lib.hid (J11f.out.fr hf (fun x => x))
        clear hf HZ J9f J11f CX1 CX2 CO CO2 CC
        generalize w' = wy at *
        by_cases hE : E = 0
        case neg =>
          have t1 : (E != 0) = true := by rw [bne_iff_ne]; exact hE
          obtain ⟨rfl, rfl, rfl⟩ := NO.out (.inl hE)
          have FE := Lib.hid HY.out.fr
          clear hE
          go_wp2
          go_ret
          exact ⟨rfl, FE.out⟩
        subst hE
        by_cases hroot : ra = rb
        case neg =>
          have qr : Hid (∀ w : World, (binOp .neq 23 (.agg RA.toArray) (.agg RB.toArray)).run Tryd.prog w = .ok (.bool true) w) := fun w => by
            rw [qn.out, decide_eq_false hroot]
            rfl
          obtain ⟨rfl, rfl, rfl⟩ := NO.out (.inr (.inl hroot))
          clear hroot
          go_upto_region 11 with fail
          refine wp_region_sq 12 Nothing [Is (.int .i64 0), Is (.bool false), Is (.bool false), Is (.int .i64 0), Is (.bool false), Is (.bool false), Is (.bool false), Is (.agg RA.toArray), Is (.agg RB.toArray), Is (.bool true), Is (.bool true), Is (.bool true)] [] (fun _ => True) (fun _ _ => false) (by kernel_rfl) (by kernel_rfl) (by kernel_rfl) ⟨Is.stable _, Is.stable _, Is.stable _, Is.stable _, Is.stable _, Is.stable _, Is.stable _, Is.stable _, Is.stable _, Is.stable _, Is.stable _, Is.stable _, trivial⟩ trivial (fun _ _ _ _ h => h) trivial ?_ ?_
          · refine ⟨fun u w' d hf hR k1 k0 kM => ?_, fun u w' d hf hR k1 k0 kM => ?_, fun u w' d hf hR k1 k0 kM => ?_, fun u w' d hf hR k1 k0 kM => ?_, fun u w' d hf hR k1 k0 kM => ?_, fun u w' d hf hR k1 k0 kM => ?_, fun u w' d hf hR k1 k0 kM => ?_, fun u w' d hf hR k1 k0 kM => ?_, fun u w' d hf hR k1 k0 kM => ?_, fun u w' d hf hR k1 k0 kM => ?_, fun u w' d hf hR k1 k0 kM => ?_, fun u w' d hf hR k1 k0 kM => ?_, trivial⟩
            all_goals simp only [List.take_succ_cons, List.take_zero, List.map_cons, List.map_nil, puts, Act.put, List.setIfInBounds_toArray, List.set_cons_zero, List.set_cons_succ, Nat.reduceAdd, Nat.zero_add]
            · clear hR k1 k0 kM
              refine .inl ⟨by kernel_rfl, ?_⟩
              go_simp
              exact ⟨_, rfl, Fr.refl _ _, rfl, trivial⟩
            · have h0 : u 0 = _ := hR 0 (by kernel_rfl)
              clear hR k1 k0 kM
              simp only [h0]
              refine .inl ⟨by kernel_rfl, ?_⟩
              go_simp
              exact ⟨_, rfl, Fr.refl _ _, rfl, trivial⟩
            · have h1 : u 1 = _ := hR 1 (by kernel_rfl)
              clear hR k1 k0 kM
              simp only [h1]
              refine .inl ⟨by kernel_rfl, ?_⟩
              go_simp
              exact ⟨_, rfl, Fr.refl _ _, rfl, trivial⟩
            · have h2 : u 2 = _ := hR 2 (by kernel_rfl)
              clear hR k1 k0 kM
              simp only [h2]
              refine .inl ⟨by kernel_rfl, ?_⟩
              go_simp
              exact ⟨_, rfl, Fr.refl _ _, rfl, trivial⟩
            · have h3 : u 3 = _ := hR 3 (by kernel_rfl)
              have h2 : u 2 = _ := hR 2 (by kernel_rfl)
              clear hR k1 k0 kM
              simp only [h3, h2]
              refine .inl ⟨by kernel_rfl, ?_⟩
              go_simp
              exact ⟨_, rfl, Fr.refl _ _, rfl, trivial⟩
            · have h2 : u 2 = _ := hR 2 (by kernel_rfl)
              have h4 : u 4 = _ := hR 4 (by kernel_rfl)
              clear hR k1 k0 kM
              simp only [h2, h4]
              refine .inl ⟨by kernel_rfl, ?_⟩
              go_simp
              exact ⟨_, rfl, Fr.refl _ _, rfl, trivial⟩
            · have h5 : u 5 = _ := hR 5 (by kernel_rfl)
              clear hR k1 k0 kM
              simp only [h5]
              refine .inl ⟨by kernel_rfl, ?_⟩
              go_simp
              exact ⟨_, rfl, Fr.refl _ _, rfl, trivial⟩
            · have h6 : u 6 = _ := hR 6 (by kernel_rfl)
              clear hR k1 k0 kM
              simp only [h6]
              refine .inl ⟨by kernel_rfl, ?_⟩
              exact wp_load_mid _ _ rfl g9 0 rfl RA _ (range_blk (J9.out.fr hf (fun x => x))) Tryd.underlying23 rfl IRA.out ⟨_, rfl, Fr.refl _ _, rfl, trivial⟩
            · have h6 : u 6 = _ := hR 6 (by kernel_rfl)
              clear hR k1 k0 kM
              simp only [h6]
              refine .inl ⟨by kernel_rfl, ?_⟩
              exact wp_load_mid _ _ rfl g11 0 rfl RB _ (range_blk (J11.out.fr hf (fun x => x))) Tryd.underlying23 rfl IRB.out ⟨_, rfl, Fr.refl _ _, rfl, trivial⟩
            · have h7 : u 7 = _ := hR 7 (by kernel_rfl)
              have h8 : u 8 = _ := hR 8 (by kernel_rfl)
              have h6 : u 6 = _ := hR 6 (by kernel_rfl)
              clear hR k1 k0 kM
              simp only [h7, h8, h6]
              refine .inl ⟨by kernel_rfl, ?_⟩
              exact wp_binAgg _ _ _ _ _ rfl _ _ rfl rfl Tryd.eqGuardType23 _ (qr.out _) ⟨_, rfl, Fr.refl _ _, rfl, trivial⟩
            · have h6 : u 6 = _ := hR 6 (by kernel_rfl)
              have h9 : u 9 = _ := hR 9 (by kernel_rfl)
              clear hR k1 k0 kM
              simp only [h6, h9]
              refine .inl ⟨by kernel_rfl, ?_⟩
              go_simp
              exact ⟨_, rfl, Fr.refl _ _, rfl, trivial⟩
            · have h10 : u 10 = _ := hR 10 (by kernel_rfl)
              clear hR k1 k0 kM
              simp only [h10]
              refine .inl ⟨by kernel_rfl, ?_⟩
              go_simp
              exact ⟨_, rfl, Fr.refl _ _, rfl, trivial⟩
          · intro u w' hf hR kM
            have h11 : u 11 = _ := hR 11 (by omega)
            clear hR kM
            simp only [List.take_succ_cons, List.take_zero, List.map_cons, List.map_nil, puts, Act.put, List.setIfInBounds_toArray, List.set_cons_zero, List.set_cons_succ, List.drop_succ_cons, List.drop_zero, Nat.reduceAdd, Nat.zero_add, h11]
            have FE := Lib.hid (HY.out.fr.trans hf)
            clear hf J9 J11
            go_wp2
            go_ret
            exact ⟨rfl, FE.out⟩
        have qr : Hid (∀ w : World, (binOp .neq 23 (.agg RA.toArray) (.agg RB.toArray)).run Tryd.prog w = .ok (.bool false) w) := fun w => by
          rw [qn.out, decide_eq_true hroot]
          rfl
        by_cases hbb : bb = 0
        case pos =>
          obtain ⟨rfl, rfl, rfl⟩ := NO.out (.inr (.inr hbb))
          have t2 : (((bb.toNat : Nat) : Int) == 0) = true := by rw [hbb]; rfl
          clear hroot hbb
          go_upto_region 11 with fail
          refine wp_region_sq 15 Nothing [Is (.int .i64 0), Is (.bool false), Is (.bool false), Is (.int .i64 0), Is (.bool false), Is (.bool false), Is (.bool false), Is (.agg RA.toArray), Is (.agg RB.toArray), Is (.bool false), Is (.bool false), Is (.bool false), Is (.int .u8 ((bb.toNat : Nat) : Int)), Is (.bool true), Is (.bool true)] [] (fun _ => True) (fun _ _ => false) (by kernel_rfl) (by kernel_rfl) (by kernel_rfl) ⟨Is.stable _, Is.stable _, Is.stable _, Is.stable _, Is.stable _, Is.stable _, Is.stable _, Is.stable _, Is.stable _, Is.stable _, Is.stable _, Is.stable _, Is.stable _, Is.stable _, Is.stable _, trivial⟩ trivial (fun _ _ _ _ h => h) trivial ?_ ?_
          · refine ⟨fun u w' d hf hR k1 k0 kM => ?_, fun u w' d hf hR k1 k0 kM => ?_, fun u w' d hf hR k1 k0 kM => ?_, fun u w' d hf hR k1 k0 kM => ?_, fun u w' d hf hR k1 k0 kM => ?_, fun u w' d hf hR k1 k0 kM => ?_, fun u w' d hf hR k1 k0 kM => ?_, fun u w' d hf hR k1 k0 kM => ?_, fun u w' d hf hR k1 k0 kM => ?_, fun u w' d hf hR k1 k0 kM => ?_, fun u w' d hf hR k1 k0 kM => ?_, fun u w' d hf hR k1 k0 kM => ?_, fun u w' d hf hR k1 k0 kM => ?_, fun u w' d hf hR k1 k0 kM => ?_, fun u w' d hf hR k1 k0 kM => ?_, trivial⟩
            all_goals simp only [List.take_succ_cons, List.take_zero, List.map_cons, List.map_nil, puts, Act.put, List.setIfInBounds_toArray, List.set_cons_zero, List.set_cons_succ, Nat.reduceAdd, Nat.zero_add]
            · clear hR k1 k0 kM
              refine .inl ⟨by kernel_rfl, ?_⟩
              go_simp
              exact ⟨_, rfl, Fr.refl _ _, rfl, trivial⟩
            · have h0 : u 0 = _ := hR 0 (by kernel_rfl)
              clear hR k1 k0 kM
              simp only [h0]
              refine .inl ⟨by kernel_rfl, ?_⟩
              go_simp
              exact ⟨_, rfl, Fr.refl _ _, rfl, trivial⟩
            · have h1 : u 1 = _ := hR 1 (by kernel_rfl)
              clear hR k1 k0 kM
              simp only [h1]
              refine .inl ⟨by kernel_rfl, ?_⟩
              go_simp
              exact ⟨_, rfl, Fr.refl _ _, rfl, trivial⟩
            · have h2 : u 2 = _ := hR 2 (by kernel_rfl)
              clear hR k1 k0 kM
              simp only [h2]
              refine .inl ⟨by kernel_rfl, ?_⟩
              go_simp
              exact ⟨_, rfl, Fr.refl _ _, rfl, trivial⟩
            · have h3 : u 3 = _ := hR 3 (by kernel_rfl)
              have h2 : u 2 = _ := hR 2 (by kernel_rfl)
              clear hR k1 k0 kM
              simp only [h3, h2]
              refine .inl ⟨by kernel_rfl, ?_⟩
              go_simp
              exact ⟨_, rfl, Fr.refl _ _, rfl, trivial⟩
            · have h2 : u 2 = _ := hR 2 (by kernel_rfl)
              have h4 : u 4 = _ := hR 4 (by kernel_rfl)
              clear hR k1 k0 kM
              simp only [h2, h4]
              refine .inl ⟨by kernel_rfl, ?_⟩
              go_simp
              exact ⟨_, rfl, Fr.refl _ _, rfl, trivial⟩
            · have h5 : u 5 = _ := hR 5 (by kernel_rfl)
              clear hR k1 k0 kM
              simp only [h5]
              refine .inl ⟨by kernel_rfl, ?_⟩
              go_simp
              exact ⟨_, rfl, Fr.refl _ _, rfl, trivial⟩
            · have h6 : u 6 = _ := hR 6 (by kernel_rfl)
              clear hR k1 k0 kM
              simp only [h6]
              refine .inl ⟨by kernel_rfl, ?_⟩
              exact wp_load_mid _ _ rfl g9 0 rfl RA _ (range_blk (J9.out.fr hf (fun x => x))) Tryd.underlying23 rfl IRA.out ⟨_, rfl, Fr.refl _ _, rfl, trivial⟩
            · have h6 : u 6 = _ := hR 6 (by kernel_rfl)
              clear hR k1 k0 kM
              simp only [h6]
              refine .inl ⟨by kernel_rfl, ?_⟩
              exact wp_load_mid _ _ rfl g11 0 rfl RB _ (range_blk (J11.out.fr hf (fun x => x))) Tryd.underlying23 rfl IRB.out ⟨_, rfl, Fr.refl _ _, rfl, trivial⟩
            · have h7 : u 7 = _ := hR 7 (by kernel_rfl)
              have h8 : u 8 = _ := hR 8 (by kernel_rfl)
              have h6 : u 6 = _ := hR 6 (by kernel_rfl)
              clear hR k1 k0 kM
              simp only [h7, h8, h6]
              refine .inl ⟨by kernel_rfl, ?_⟩
              exact wp_binAgg _ _ _ _ _ rfl _ _ rfl rfl Tryd.eqGuardType23 _ (qr.out _) ⟨_, rfl, Fr.refl _ _, rfl, trivial⟩
            · have h6 : u 6 = _ := hR 6 (by kernel_rfl)
              have h9 : u 9 = _ := hR 9 (by kernel_rfl)
              clear hR k1 k0 kM
              simp only [h6, h9]
              refine .inl ⟨by kernel_rfl, ?_⟩
              go_simp
              exact ⟨_, rfl, Fr.refl _ _, rfl, trivial⟩
            · have h10 : u 10 = _ := hR 10 (by kernel_rfl)
              clear hR k1 k0 kM
              simp only [h10]
              refine .inl ⟨by kernel_rfl, ?_⟩
              go_simp
              exact ⟨_, rfl, Fr.refl _ _, rfl, trivial⟩
            · have h11 : u 11 = _ := hR 11 (by kernel_rfl)
              clear hR k1 k0 kM
              simp only [h11]
              refine .inl ⟨by kernel_rfl, ?_⟩
              go_simp
              exact ⟨_, rfl, Fr.refl _ _, rfl, trivial⟩
            · have h12 : u 12 = _ := hR 12 (by kernel_rfl)
              have h11 : u 11 = _ := hR 11 (by kernel_rfl)
              clear hR k1 k0 kM
              simp only [h12, h11]
              refine .inl ⟨by kernel_rfl, ?_⟩
              go_simp
              exact ⟨_, rfl, Fr.refl _ _, rfl, trivial⟩
            · have h11 : u 11 = _ := hR 11 (by kernel_rfl)
              have h13 : u 13 = _ := hR 13 (by kernel_rfl)
              clear hR k1 k0 kM
              simp only [h11, h13]
              refine .inl ⟨by kernel_rfl, ?_⟩
              go_simp
              exact ⟨_, rfl, Fr.refl _ _, rfl, trivial⟩
          · intro u w' hf hR kM
            have h14 : u 14 = _ := hR 14 (by omega)
            clear hR kM
            simp only [List.take_succ_cons, List.take_zero, List.map_cons, List.map_nil, puts, Act.put, List.setIfInBounds_toArray, List.set_cons_zero, List.set_cons_succ, List.drop_succ_cons, List.drop_zero, Nat.reduceAdd, Nat.zero_add, h14]
            have FE := Lib.hid (HY.out.fr.trans hf)
            clear hf J9 J11
            go_wp2
            go_ret
            exact ⟨rfl, FE.out⟩
        have t2 : (((bb.toNat : Nat) : Int) == 0) = false := by
          rw [beq_eq_false_iff_ne]
          intro h
          exact hbb (UInt8.toNat_inj.1 (by rw [show (0 : UInt8).toNat = 0 from rfl]; omega))
        obtain ⟨rfl, t3, CS1, CS2⟩ := YES.out rfl hroot hbb
        clear hroot hbb YES NO
        go_upto_region 11 with fail
        refine wp_region_sq 15 Nothing [Is (.int .i64 0), Is (.bool false), Is (.bool false), Is (.int .i64 0), Is (.bool false), Is (.bool false), Is (.bool false), Is (.agg RA.toArray), Is (.agg RB.toArray), Is (.bool false), Is (.bool false), Is (.bool false), Is (.int .u8 ((bb.toNat : Nat) : Int)), Is (.bool false), Is (.bool false)] [] (fun _ => True) (fun _ _ => false) (by kernel_rfl) (by kernel_rfl) (by kernel_rfl) ⟨Is.stable _, Is.stable _, Is.stable _, Is.stable _, Is.stable _, Is.stable _, Is.stable _, Is.stable _, Is.stable _, Is.stable _, Is.stable _, Is.stable _, Is.stable _, Is.stable _, Is.stable _, trivial⟩ trivial (fun _ _ _ _ h => h) trivial ?_ ?_
        · refine ⟨fun u w' d hf hR k1 k0 kM => ?_, fun u w' d hf hR k1 k0 kM => ?_, fun u w' d hf hR k1 k0 kM => ?_, fun u w' d hf hR k1 k0 kM => ?_, fun u w' d hf hR k1 k0 kM => ?_, fun u w' d hf hR k1 k0 kM => ?_, fun u w' d hf hR k1 k0 kM => ?_, fun u w' d hf hR k1 k0 kM => ?_, fun u w' d hf hR k1 k0 kM => ?_, fun u w' d hf hR k1 k0 kM => ?_, fun u w' d hf hR k1 k0 kM => ?_, fun u w' d hf hR k1 k0 kM => ?_, fun u w' d hf hR k1 k0 kM => ?_, fun u w' d hf hR k1 k0 kM => ?_, fun u w' d hf hR k1 k0 kM => ?_, trivial⟩
          all_goals simp only [List.take_succ_cons, List.take_zero, List.map_cons, List.map_nil, puts, Act.put, List.setIfInBounds_toArray, List.set_cons_zero, List.set_cons_succ, Nat.reduceAdd, Nat.zero_add]
          · clear hR k1 k0 kM
            refine .inl ⟨by kernel_rfl, ?_⟩
            go_simp
            exact ⟨_, rfl, Fr.refl _ _, rfl, trivial⟩
          · have h0 : u 0 = _ := hR 0 (by kernel_rfl)
            clear hR k1 k0 kM
            simp only [h0]
            refine .inl ⟨by kernel_rfl, ?_⟩
            go_simp
            exact ⟨_, rfl, Fr.refl _ _, rfl, trivial⟩
          · have h1 : u 1 = _ := hR 1 (by kernel_rfl)
            clear hR k1 k0 kM
            simp only [h1]
            refine .inl ⟨by kernel_rfl, ?_⟩
            go_simp
            exact ⟨_, rfl, Fr.refl _ _, rfl, trivial⟩
          · have h2 : u 2 = _ := hR 2 (by kernel_rfl)
            clear hR k1 k0 kM
            simp only [h2]
            refine .inl ⟨by kernel_rfl, ?_⟩
            go_simp
            exact ⟨_, rfl, Fr.refl _ _, rfl, trivial⟩
          · have h3 : u 3 = _ := hR 3 (by kernel_rfl)
            have h2 : u 2 = _ := hR 2 (by kernel_rfl)
            clear hR k1 k0 kM
            simp only [h3, h2]
            refine .inl ⟨by kernel_rfl, ?_⟩
            go_simp
            exact ⟨_, rfl, Fr.refl _ _, rfl, trivial⟩
          · have h2 : u 2 = _ := hR 2 (by kernel_rfl)
            have h4 : u 4 = _ := hR 4 (by kernel_rfl)
            clear hR k1 k0 kM
            simp only [h2, h4]
            refine .inl ⟨by kernel_rfl, ?_⟩
            go_simp
            exact ⟨_, rfl, Fr.refl _ _, rfl, trivial⟩
          · have h5 : u 5 = _ := hR 5 (by kernel_rfl)
            clear hR k1 k0 kM
            simp only [h5]
            refine .inl ⟨by kernel_rfl, ?_⟩
            go_simp
            exact ⟨_, rfl, Fr.refl _ _, rfl, trivial⟩
          · have h6 : u 6 = _ := hR 6 (by kernel_rfl)
            clear hR k1 k0 kM
            simp only [h6]
            refine .inl ⟨by kernel_rfl, ?_⟩
            exact wp_load_mid _ _ rfl g9 0 rfl RA _ (range_blk (J9.out.fr hf (fun x => x))) Tryd.underlying23 rfl IRA.out ⟨_, rfl, Fr.refl _ _, rfl, trivial⟩
          · have h6 : u 6 = _ := hR 6 (by kernel_rfl)
            clear hR k1 k0 kM
            simp only [h6]
            refine .inl ⟨by kernel_rfl, ?_⟩
            exact wp_load_mid _ _ rfl g11 0 rfl RB _ (range_blk (J11.out.fr hf (fun x => x))) Tryd.underlying23 rfl IRB.out ⟨_, rfl, Fr.refl _ _, rfl, trivial⟩
          · have h7 : u 7 = _ := hR 7 (by kernel_rfl)
            have h8 : u 8 = _ := hR 8 (by kernel_rfl)
            have h6 : u 6 = _ := hR 6 (by kernel_rfl)
            clear hR k1 k0 kM
            simp only [h7, h8, h6]
            refine .inl ⟨by kernel_rfl, ?_⟩
            exact wp_binAgg _ _ _ _ _ rfl _ _ rfl rfl Tryd.eqGuardType23 _ (qr.out _) ⟨_, rfl, Fr.refl _ _, rfl, trivial⟩
          · have h6 : u 6 = _ := hR 6 (by kernel_rfl)
            have h9 : u 9 = _ := hR 9 (by kernel_rfl)
            clear hR k1 k0 kM
            simp only [h6, h9]
            refine .inl ⟨by kernel_rfl, ?_⟩
            go_simp
            exact ⟨_, rfl, Fr.refl _ _, rfl, trivial⟩
          · have h10 : u 10 = _ := hR 10 (by kernel_rfl)
            clear hR k1 k0 kM
            simp only [h10]
            refine .inl ⟨by kernel_rfl, ?_⟩
            go_simp
            exact ⟨_, rfl, Fr.refl _ _, rfl, trivial⟩
          · have h11 : u 11 = _ := hR 11 (by kernel_rfl)
            clear hR k1 k0 kM
            simp only [h11]
            refine .inl ⟨by kernel_rfl, ?_⟩
            go_simp
            exact ⟨_, rfl, Fr.refl _ _, rfl, trivial⟩
          · have h12 : u 12 = _ := hR 12 (by kernel_rfl)
            have h11 : u 11 = _ := hR 11 (by kernel_rfl)
            clear hR k1 k0 kM
            simp only [h12, h11]
            refine .inl ⟨by kernel_rfl, ?_⟩
            go_simp
            exact ⟨_, rfl, Fr.refl _ _, rfl, trivial⟩
          · have h11 : u 11 = _ := hR 11 (by kernel_rfl)
            have h13 : u 13 = _ := hR 13 (by kernel_rfl)
            clear hR k1 k0 kM
            simp only [h11, h13]
            refine .inl ⟨by kernel_rfl, ?_⟩
            go_simp
            exact ⟨_, rfl, Fr.refl _ _, rfl, trivial⟩
        · intro u w' hf hR kM
          have h14 : u 14 = _ := hR 14 (by omega)
          clear hR kM
          simp only [List.take_succ_cons, List.take_zero, List.map_cons, List.map_nil, puts, Act.put, List.setIfInBounds_toArray, List.set_cons_zero, List.set_cons_succ, List.drop_succ_cons, List.drop_zero, Nat.reduceAdd, Nat.zero_add, h14]
          have FE := Lib.hid (HY.out.fr.trans hf)
          clear hf J9 J11
          go_upto_region 13 with fail
          refine wp_region_sq 13 Nothing [Is (.bool true), Is (.bool true), Is (.string XS), Is (.string YS), Is (.bool true), Is (.bool true), Is (.bool true), Is (.string XS), Is (.agg QV.toArray), Is (.string YS), Is (.agg QV.toArray), Is (.bool true), Is (.bool true)] [] (fun _ => True) (fun _ _ => false) (by kernel_rfl) (by kernel_rfl) (by kernel_rfl) ⟨Is.stable _, Is.stable _, Is.stable _, Is.stable _, Is.stable _, Is.stable _, Is.stable _, Is.stable _, Is.stable _, Is.stable _, Is.stable _, Is.stable _, Is.stable _, trivial⟩ trivial (fun _ _ _ _ h => h) trivial ?_ ?_
          · refine ⟨fun u w' d hf hR k1 k0 kM => ?_, fun u w' d hf hR k1 k0 kM => ?_, fun u w' d hf hR k1 k0 kM => ?_, fun u w' d hf hR k1 k0 kM => ?_, fun u w' d hf hR k1 k0 kM => ?_, fun u w' d hf hR k1 k0 kM => ?_, fun u w' d hf hR k1 k0 kM => ?_, fun u w' d hf hR k1 k0 kM => ?_, fun u w' d hf hR k1 k0 kM => ?_, fun u w' d hf hR k1 k0 kM => ?_, fun u w' d hf hR k1 k0 kM => ?_, fun u w' d hf hR k1 k0 kM => ?_, fun u w' d hf hR k1 k0 kM => ?_, trivial⟩
            all_goals simp only [List.take_succ_cons, List.take_zero, List.map_cons, List.map_nil, puts, Act.put, List.setIfInBounds_toArray, List.set_cons_zero, List.set_cons_succ, Nat.reduceAdd, Nat.zero_add]
            · clear hR k1 k0 kM
              refine .inl ⟨by kernel_rfl, ?_⟩
              go_simp
              exact ⟨_, rfl, Fr.refl _ _, rfl, trivial⟩
            · have h0 : u 0 = _ := hR 0 (by kernel_rfl)
              clear hR k1 k0 kM
              simp only [h0]
              refine .inl ⟨by kernel_rfl, ?_⟩
              go_simp
              exact ⟨_, rfl, Fr.refl _ _, rfl, trivial⟩
            · have h1 : u 1 = _ := hR 1 (by kernel_rfl)
              clear hR k1 k0 kM
              simp only [h1]
              refine .inl ⟨by kernel_rfl, ?_⟩
              go_simp
              exact ⟨_, rfl, Fr.refl _ _, rfl, trivial⟩
            · have h1 : u 1 = _ := hR 1 (by kernel_rfl)
              clear hR k1 k0 kM
              simp only [h1]
              refine .inl ⟨by kernel_rfl, ?_⟩
              go_simp
              exact ⟨_, rfl, Fr.refl _ _, rfl, trivial⟩
            · have h2 : u 2 = _ := hR 2 (by kernel_rfl)
              have h3 : u 3 = _ := hR 3 (by kernel_rfl)
              have h1 : u 1 = _ := hR 1 (by kernel_rfl)
              clear hR k1 k0 kM
              simp only [h2, h3, h1]
              refine .inl ⟨by kernel_rfl, ?_⟩
              go_simp
              exact ⟨_, rfl, Fr.refl _ _, rfl, trivial⟩
            · have h1 : u 1 = _ := hR 1 (by kernel_rfl)
              have h4 : u 4 = _ := hR 4 (by kernel_rfl)
              clear hR k1 k0 kM
              simp only [h1, h4]
              refine .inl ⟨by kernel_rfl, ?_⟩
              go_simp
              exact ⟨_, rfl, Fr.refl _ _, rfl, trivial⟩
            · have h5 : u 5 = _ := hR 5 (by kernel_rfl)
              clear hR k1 k0 kM
              simp only [h5]
              refine .inl ⟨by kernel_rfl, ?_⟩
              go_simp
              exact ⟨_, rfl, Fr.refl _ _, rfl, trivial⟩
            · have h6 : u 6 = _ := hR 6 (by kernel_rfl)
              clear hR k1 k0 kM
              simp only [h6]
              refine .inl ⟨by kernel_rfl, ?_⟩
              go_simp
              exact ⟨_, rfl, Fr.refl _ _, rfl, trivial⟩
            · have h7 : u 7 = _ := hR 7 (by kernel_rfl)
              have h6 : u 6 = _ := hR 6 (by kernel_rfl)
              clear hR k1 k0 kM
              simp only [h7, h6]
              refine .inl ⟨by kernel_rfl, ?_⟩
              go_simp
              refine (CS1.out _).mono ?_
              rintro e w4 ⟨rfl, f4⟩
              exact ⟨_, rfl, f4.weak, rfl, trivial⟩
            · have h6 : u 6 = _ := hR 6 (by kernel_rfl)
              clear hR k1 k0 kM
              simp only [h6]
              refine .inl ⟨by kernel_rfl, ?_⟩
              go_simp
              exact ⟨_, rfl, Fr.refl _ _, rfl, trivial⟩
            · have h9 : u 9 = _ := hR 9 (by kernel_rfl)
              have h6 : u 6 = _ := hR 6 (by kernel_rfl)
              clear hR k1 k0 kM
              simp only [h9, h6]
              refine .inl ⟨by kernel_rfl, ?_⟩
              go_simp
              refine (CS2.out _).mono ?_
              rintro e w4 ⟨rfl, f4⟩
              exact ⟨_, rfl, f4.weak, rfl, trivial⟩
            · have h8 : u 8 = _ := hR 8 (by kernel_rfl)
              have h10 : u 10 = _ := hR 10 (by kernel_rfl)
              have h6 : u 6 = _ := hR 6 (by kernel_rfl)
              clear hR k1 k0 kM
              simp only [h8, h10, h6]
              refine .inl ⟨by kernel_rfl, ?_⟩
              exact wp_binAgg _ _ _ _ _ rfl _ _ rfl rfl Tryd.eqGuardType23 _ (qs.out _) ⟨_, rfl, Fr.refl _ _, rfl, trivial⟩
            · have h6 : u 6 = _ := hR 6 (by kernel_rfl)
              have h11 : u 11 = _ := hR 11 (by kernel_rfl)
              clear hR k1 k0 kM
              simp only [h6, h11]
              refine .inl ⟨by kernel_rfl, ?_⟩
              go_simp
              exact ⟨_, rfl, Fr.refl _ _, rfl, trivial⟩
          · intro u w' hf hR kM
            have h12 : u 12 = _ := hR 12 (by omega)
            clear hR kM
            simp only [List.take_succ_cons, List.take_zero, List.map_cons, List.map_nil, puts, Act.put, List.setIfInBounds_toArray, List.set_cons_zero, List.set_cons_succ, List.drop_succ_cons, List.drop_zero, Nat.reduceAdd, Nat.zero_add, h12]
            have FG := Lib.hid (FE.out.trans hf)
            clear hf FE
            go_wp2
            go_ret
            exact ⟨rfl, FG.out⟩
    · have t32 : decide ((kk : Int) < 32) = false := decide_eq_false (by omega)
      obtain ⟨e1, e2⟩ := H2B.out hk32
      have hq0 : len ≠ 0 := fun h => by have := HK1.out; omega
      obtain ⟨gp, zs, rfl, hgp, hBp⟩ : ∃ g zs, A7 = some ⟨g, 0, none⟩ ∧ w2.heap.size ≤ g ∧ Blk wx g 23 (path.flatMap digC ++ zs).toArray := by
        rcases K7.out.2.2 with h | h
        · exact absurd h hq0
        · exact h
      obtain ⟨q, hq⟩ : ∃ q : Nat, q = kk / 32 := ⟨_, rfl⟩
      obtain ⟨i, hi⟩ : ∃ i : Nat, i = q - 1 := ⟨_, rfl⟩
      obtain ⟨j, hj⟩ : ∃ j : Nat, j = kk % 32 := ⟨_, rfl⟩
      have hil : i < path.length := by rw [HL.out]; have := HK1.out; omega
      have hj32 : j < 32 := by omega
      obtain ⟨ob, hob⟩ : ∃ ob, ob = (path.getD i []).getD j 0 := ⟨_, rfl⟩
      have HBP := Lib.hid hBp
      have POB : Hid (∀ w', Fr Nothing wx w' → w'.cell? ⟨gp, i * 32 + j, none⟩ = some (.int .u8 ((ob.toNat : Nat) : Int))) := fun w' hf => by
        rw [hob]
        exact path_cell HE.out (HBP.out.fr hf (fun x => x)) hil hj32
      have P34 : Hid (∀ w', Fr Nothing wx w' → w'.cell? ⟨g7, 34, none⟩ = some (.slice (some ⟨gp, 0, none⟩) len c7)) := fun w' hf => (claim_cells (B7.out.fr hf (fun x => x)) LL.out).2.2.1
      have hx := xor_u8 ob bb
      have a1 : (kk : Int).tdiv 32 = (q : Int) := by rw [Int.tdiv_eq_ediv_of_nonneg (by omega)]; omega
      have a2 : (kk : Int) / 32 = (q : Int) := by omega
      have a3 : kk / 32 = q := hq.symm
      have a4 : (q : Int) - 1 = (i : Int) := by omega
      have a5 : (kk : Int).tmod 32 = (j : Int) := by rw [Int.tmod_eq_emod_of_nonneg (by omega)]; omega
      have a6 : (kk : Int) % 32 = (j : Int) := by omega
      have a7 : kk % 32 = j := hj.symm
      have a8 : (i : Int) < (len : Int) := by have := HL.out; omega
      have a9 : i < len := by have := HL.out; omega
      have b1 : (j : Int) < 32 := by omega
      have q4 : q ≤ 1000 := by omega
      have wq : IntKind.i64.wrap (q : Int) = (q : Int) := IntWalk.i64_in _ (by omega)
      have wi : IntKind.i64.wrap (i : Int) = (i : Int) := IntWalk.i64_in _ (by omega)
      have PUT : Hid ((path.flatMap digC ++ zs).toArray.setIfInBounds (i * 32 + j) (.int .u8 (((ob ^^^ bb).toNat : Nat) : Int)) = (path2.flatMap digC ++ zs).toArray) := by
        simp only [Hid]
        have h := path_put path zs HE.out kk bb (by rw [← hq, ← hi]; exact hil)
        rw [← hq, ← hi, ← hj, ← hob, ← e2] at h
        exact h
      have SZ7 : Hid (i * 32 + j < (path.flatMap digC ++ zs).toArray.size) := by simp only [Hid, List.size_toArray, List.length_append]; rw [flat_len path HE.out]; omega
      have E12 : Hid (leaf2 = leaf) := e1
      have HQ := Lib.hid hgp
      have DZ : Hid (∀ W, Blk W gp 23 (path2.flatMap digC ++ zs).toArray → ∃ S, DigL W S (some ⟨gp, 0, none⟩) len path2) := fun W h => CopyA.dig (b := 0) (c := c7) (show CopyA 0 len path2 (some ⟨gp, 0, none⟩) c7 W from ⟨HC7.out.1, HC7.out.2, .inr ⟨gp, zs, rfl, Nat.zero_le _, h⟩⟩) HL2.out HE2.out
      clear e1 e2 hq hi hj hob hgp hBp hq0 hil
      go_upto_region 7 with fail
      clear y32 y33 y34
      refine wp_region_st 14 Nothing [Is (.pointer (some ⟨g7, 34, none⟩)), Is (.slice (some ⟨gp, 0, none⟩) len c7), Is (.int .i64 kk), Is (.int .i64 q), Is (.int .i64 i), Is (.int .i64 kk), Is (.int .i64 j), Is (.pointer (some ⟨gp, i * 32, none⟩)), Is (.pointer (some ⟨gp, i * 32 + j, none⟩)), Is (.int .u8 ((ob.toNat : Nat) : Int)), Is (.int .u8 ((bb.toNat : Nat) : Int)), Is (.int .u8 (((ob ^^^ bb).toNat : Nat) : Int)), Is (.pointer (some ⟨gp, i * 32, none⟩)), Is (.pointer (some ⟨gp, i * 32 + j, none⟩))] [] (fun _ => True) (fun _ _ => false) (by kernel_rfl) (by kernel_rfl) (by kernel_rfl) (by kernel_rfl) ⟨Is.stable _, Is.stable _, Is.stable _, Is.stable _, Is.stable _, Is.stable _, Is.stable _, Is.stable _, Is.stable _, Is.stable _, Is.stable _, Is.stable _, Is.stable _, Is.stable _, trivial⟩ trivial (fun _ _ _ _ h => h) trivial ?_ ?_
      · refine ⟨fun u w' d hf hR k1 k0 kM => ?_, fun u w' d hf hR k1 k0 kM => ?_, fun u w' d hf hR k1 k0 kM => ?_, fun u w' d hf hR k1 k0 kM => ?_, fun u w' d hf hR k1 k0 kM => ?_, fun u w' d hf hR k1 k0 kM => ?_, fun u w' d hf hR k1 k0 kM => ?_, fun u w' d hf hR k1 k0 kM => ?_, fun u w' d hf hR k1 k0 kM => ?_, fun u w' d hf hR k1 k0 kM => ?_, fun u w' d hf hR k1 k0 kM => ?_, fun u w' d hf hR k1 k0 kM => ?_, fun u w' d hf hR k1 k0 kM => ?_, fun u w' d hf hR k1 k0 kM => ?_, trivial⟩
        all_goals simp only [List.take_succ_cons, List.take_zero, List.map_cons, List.map_nil, puts, Act.put, List.setIfInBounds_toArray, List.set_cons_zero, List.set_cons_succ, Nat.reduceAdd, Nat.zero_add]
        · clear hR k1 k0 kM
          refine .inl ⟨by kernel_rfl, ?_⟩
          go_simp
          exact ⟨_, rfl, Fr.refl _ _, rfl, trivial⟩
        · have h0 : u 0 = _ := hR 0 (by kernel_rfl)
          clear hR k1 k0 kM
          simp only [h0]
          refine .inl ⟨by kernel_rfl, ?_⟩
          have hc := P34.out _ hf
          go_simp
          exact ⟨_, rfl, Fr.refl _ _, rfl, trivial⟩
        · clear hR k1 k0 kM
          refine .inl ⟨by kernel_rfl, ?_⟩
          go_simp
          exact ⟨_, rfl, Fr.refl _ _, rfl, trivial⟩
        · have h2 : u 2 = _ := hR 2 (by kernel_rfl)
          clear hR k1 k0 kM
          simp only [h2]
          refine .inl ⟨by kernel_rfl, ?_⟩
          go_simp
          exact ⟨_, rfl, Fr.refl _ _, rfl, trivial⟩
        · have h3 : u 3 = _ := hR 3 (by kernel_rfl)
          clear hR k1 k0 kM
          simp only [h3]
          refine .inl ⟨by kernel_rfl, ?_⟩
          go_simp
          exact ⟨_, rfl, Fr.refl _ _, rfl, trivial⟩
        · clear hR k1 k0 kM
          refine .inl ⟨by kernel_rfl, ?_⟩
          go_simp
          exact ⟨_, rfl, Fr.refl _ _, rfl, trivial⟩
        · have h5 : u 5 = _ := hR 5 (by kernel_rfl)
          clear hR k1 k0 kM
          simp only [h5]
          refine .inl ⟨by kernel_rfl, ?_⟩
          go_simp
          exact ⟨_, rfl, Fr.refl _ _, rfl, trivial⟩
        · have h1 : u 1 = _ := hR 1 (by kernel_rfl)
          have h4 : u 4 = _ := hR 4 (by kernel_rfl)
          clear hR k1 k0 kM
          simp only [h1, h4]
          refine .inl ⟨by kernel_rfl, ?_⟩
          go_simp
          exact ⟨_, rfl, Fr.refl _ _, rfl, trivial⟩
        · have h7 : u 7 = _ := hR 7 (by kernel_rfl)
          have h6 : u 6 = _ := hR 6 (by kernel_rfl)
          clear hR k1 k0 kM
          simp only [h7, h6]
          refine .inl ⟨by kernel_rfl, ?_⟩
          go_simp
          exact ⟨_, rfl, Fr.refl _ _, rfl, trivial⟩
        · have h8 : u 8 = _ := hR 8 (by kernel_rfl)
          clear hR k1 k0 kM
          simp only [h8]
          refine .inl ⟨by kernel_rfl, ?_⟩
          have hc := POB.out _ hf
          go_simp
          exact ⟨_, rfl, Fr.refl _ _, rfl, trivial⟩
        · clear hR k1 k0 kM
          refine .inl ⟨by kernel_rfl, ?_⟩
          go_simp
          exact ⟨_, rfl, Fr.refl _ _, rfl, trivial⟩
        · have h9 : u 9 = _ := hR 9 (by kernel_rfl)
          have h10 : u 10 = _ := hR 10 (by kernel_rfl)
          clear hR k1 k0 kM
          simp only [h9, h10]
          refine .inl ⟨by kernel_rfl, ?_⟩
          go_simp
          exact ⟨_, rfl, Fr.refl _ _, rfl, trivial⟩
        · have h1 : u 1 = _ := hR 1 (by kernel_rfl)
          have h4 : u 4 = _ := hR 4 (by kernel_rfl)
          clear hR k1 k0 kM
          simp only [h1, h4]
          refine .inl ⟨by kernel_rfl, ?_⟩
          go_simp
          exact ⟨_, rfl, Fr.refl _ _, rfl, trivial⟩
        · have h12 : u 12 = _ := hR 12 (by kernel_rfl)
          have h6 : u 6 = _ := hR 6 (by kernel_rfl)
          clear hR k1 k0 kM
          simp only [h12, h6]
          refine .inl ⟨by kernel_rfl, ?_⟩
          go_simp
          exact ⟨_, rfl, Fr.refl _ _, rfl, trivial⟩
      · intro u w' hf hR kM
        have h11 : u 11 = _ := hR 11 (by omega)
        have h13 : u 13 = _ := hR 13 (by omega)
        clear hR kM
        simp only [List.take_succ_cons, List.take_zero, List.map_cons, List.map_nil, puts, Act.put, List.setIfInBounds_toArray, List.set_cons_zero, List.set_cons_succ, List.drop_succ_cons, List.drop_zero, Nat.reduceAdd, Nat.zero_add, h11, h13]
        have B7b := Lib.hid (B7.out.fr hf (fun x => x))
        have B1b := Lib.hid (B1.out.fr hf (fun x => x))
        have HBb := Lib.hid (HBP.out.fr hf (fun x => x))
        have FXb := Lib.hid (FX.out.trans hf)
        clear hf B7 B1 HBP FX
        refine wpList_storeFld rfl 5 (.tmp 67) (.tmp 65) rfl gp (i * 32 + j) _ rfl rfl rfl infoU1 _ _ _ HBb.out SZ7.out PUT.out ?_
        intro wy by' fy
        obtain ⟨S7, D7⟩ := DZ.out _ by'
        have NE7 : Hid (gp ≠ g7) := Blk.ne_ HBb.out B7b.out (by decide)
        have HX : Hid (CoW w wy g1 g7 (LV ++ [Value.int .i64 ix, Value.int .i64 nn, Value.slice A len cap]) (LV2 ++ [Value.int .i64 ix, Value.int .i64 nn, Value.slice (some ⟨gp, 0, none⟩) len c7]) S7 (some ⟨gp, 0, none⟩) len path2) :=
          ⟨FXb.out.then_ fy (fun i hi e => by have e' : i = gp := e; have := S2.out; have := HQ.out; omega), B1b.out.fr fy (fun e => by have e' : g1 = gp := e; have := S2.out; have := HQ.out; omega), by rw [← ELV2.out, E12.out, ELV.out]; exact B7b.out.fr fy (fun e => by have e' : g7 = gp := e; exact NE7.out e'.symm), D7⟩
        generalize hA7 : (some (⟨gp, 0, none⟩ : Addr)) = A7 at *
        clear hA7
        clear D7 by' fy hx PUT SZ7 B7b B1b FXb HBb K7 t32 hk32 H2A H2B ELV ELV2 S2 L7 POB P34 DZ NE7 HQ E12 a1 a2 a3 a4 a5 a6 a7 a8 a9 b1 wq wi
        obtain ⟨x32, x33, x34, xr⟩ := claim_cells HX.out.b1 LL.out
        go_wp2_with (refine wpList_load_add rfl 23 (.tmp 69) rfl ⟨g1, 0, none⟩ rfl LV _ (range_add xr) Tryd.underlying23 rfl HLV.out ?_)
        go_wp2_with fail
        refine (CX1.out _ HX.out.fr).mono ?_
        rintro e wa ⟨rfl, fa⟩
        have HXa := Lib.hid (HX.out.later fa)
        clear fa HX x32 x33 x34 xr
        go_wp2_with (refine wpList_allocBlk rfl 23 rfl zero32 zv32 zero32c rfl ?_)
        intro wb nb
        have B9 := Lib.hid nb.blk
        have HXb := Lib.hid (HXa.out.later nb.fr)
        have SZ : Hid (wa.heap.size < wb.heap.size) := nb.blk.lt
        have NF := Lib.hid nb.fr
        clear nb
        generalize hga : wa.heap.size = g9 at *
        have HG9 := Lib.hid hga
        clear hga
        go_wp2_with (refine wpList_storeBlk rfl 23 (.tmp 9) _ rfl g9 RA.toArray rfl rfl _ _ B9.out DA.out.infoR DA.out.zero DA.out.one ?_)
        intro wc bc fc
        have J9c := Lib.hid bc
        have HXc : Hid (CoW w wc g1 g7 (LV ++ [Value.int .i64 ix, Value.int .i64 nn, Value.slice A len cap]) (LV2 ++ [Value.int .i64 ix, Value.int .i64 nn, Value.slice A7 len c7]) S7 A7 len path2) := HXa.out.later (NF.out.then_ fc (fun i hi e => by have e' : i = g9 := e; have := HG9.out; omega))
        clear bc fc B9 HXa HXb SZ NF HG9
        obtain ⟨x32, x33, x34, xr⟩ := claim_cells HXc.out.b7 LL2.out
        go_wp2_with (refine wpList_load_add rfl 23 (.tmp 81) rfl ⟨g7, 0, none⟩ rfl LV2 _ (range_add xr) Tryd.underlying23 rfl HLV2.out ?_)
        go_wp2_with fail
        refine (CX2.out _ _ _ _ HXc.out.dig HC7.out.1 HC7.out.2).mono ?_
        rintro e wd ⟨rfl, fd⟩
        have HXd := Lib.hid (HXc.out.later fd)
        have J9d := Lib.hid (J9c.out.fr fd (fun x => x))
        clear fd HXc J9c x32 x33 x34 xr
        go_wp2_with (refine wpList_allocBlk rfl 23 rfl zero32 zv32 zero32c rfl ?_)
        intro we ne
        have B11 := Lib.hid ne.blk
        have NF := Lib.hid ne.fr
        have L9 : Hid (g9 < wd.heap.size) := J9d.out.lt
        have J9e := Lib.hid (J9d.out.fr ne.fr (fun x => x))
        clear ne J9d
        generalize hga : wd.heap.size = g11 at *
        have HG11 := Lib.hid hga
        clear hga
        go_wp2_with (refine wpList_storeBlk rfl 23 (.tmp 11) _ rfl g11 RB.toArray rfl rfl _ _ B11.out DB.out.infoR DB.out.zero DB.out.one ?_)
        intro wf bf ff
        have J11f := Lib.hid bf
        have J9f := Lib.hid (J9e.out.fr ff (fun e => by have e' : g9 = g11 := e; have := L9.out; omega))
        have HZ : Hid (CoW w wf g1 g7 (LV ++ [Value.int .i64 ix, Value.int .i64 nn, Value.slice A len cap]) (LV2 ++ [Value.int .i64 ix, Value.int .i64 nn, Value.slice A7 len c7]) S7 A7 len path2) := HXd.out.later (NF.out.then_ ff (fun i hi e => by have e' : i = g11 := e; have := HG11.out; omega))
        clear bf ff B11 HXd NF L9 J9e HG11
        go_upto_region 10 with fail
        refine wp_region_st 24 Nothing [Is (.pointer (some ⟨g1, 32, none⟩)), Is (.int .i64 ix), Is (.pointer (some ⟨g1, 33, none⟩)), Is (.int .i64 nn), Is (.pointer (some ⟨g1, 0, none⟩)), Is (.agg LV.toArray), Is (.pointer (some ⟨g1, 34, none⟩)), Is (.slice A len cap), OwnS len path, ProofS LV len path, Is (.pointer (some ⟨g7, 0, none⟩)), Is (.agg LV2.toArray), Is (.pointer (some ⟨g7, 34, none⟩)), Is (.slice A7 len c7), OwnS len path2, ProofS LV2 len path2, Is (.tuple #[.string XS, .string YS, .bool ok]), Is (.tuple #[.string XS, .string YS, .bool ok]), Is (.string XS), Is (.string YS), Is (.bool ok), Is (.string XS), Is (.string YS), Is (.bool ok)] [] (fun _ => True) (fun _ _ => false) (by kernel_rfl) (by kernel_rfl) (by kernel_rfl) (by kernel_rfl) ⟨Is.stable _, Is.stable _, Is.stable _, Is.stable _, Is.stable _, Is.stable _, Is.stable _, Is.stable _, OwnS.stable, ProofS.stable, Is.stable _, Is.stable _, Is.stable _, Is.stable _, OwnS.stable, ProofS.stable, Is.stable _, Is.stable _, Is.stable _, Is.stable _, Is.stable _, Is.stable _, Is.stable _, Is.stable _, trivial⟩ trivial (fun _ _ _ _ h => h) trivial ?_ ?_
        · refine ⟨fun u w' d hf hR k1 k0 kM => ?_, fun u w' d hf hR k1 k0 kM => ?_, fun u w' d hf hR k1 k0 kM => ?_, fun u w' d hf hR k1 k0 kM => ?_, fun u w' d hf hR k1 k0 kM => ?_, fun u w' d hf hR k1 k0 kM => ?_, fun u w' d hf hR k1 k0 kM => ?_, fun u w' d hf hR k1 k0 kM => ?_, fun u w' d hf hR k1 k0 kM => ?_, fun u w' d hf hR k1 k0 kM => ?_, fun u w' d hf hR k1 k0 kM => ?_, fun u w' d hf hR k1 k0 kM => ?_, fun u w' d hf hR k1 k0 kM => ?_, fun u w' d hf hR k1 k0 kM => ?_, fun u w' d hf hR k1 k0 kM => ?_, fun u w' d hf hR k1 k0 kM => ?_, fun u w' d hf hR k1 k0 kM => ?_, fun u w' d hf hR k1 k0 kM => ?_, fun u w' d hf hR k1 k0 kM => ?_, fun u w' d hf hR k1 k0 kM => ?_, fun u w' d hf hR k1 k0 kM => ?_, fun u w' d hf hR k1 k0 kM => ?_, fun u w' d hf hR k1 k0 kM => ?_, fun u w' d hf hR k1 k0 kM => ?_, trivial⟩
          all_goals simp only [List.take_succ_cons, List.take_zero, List.map_cons, List.map_nil, puts, Act.put, List.setIfInBounds_toArray, List.set_cons_zero, List.set_cons_succ, Nat.reduceAdd, Nat.zero_add]
          · clear hR k1 k0 kM
            refine .inl ⟨by kernel_rfl, ?_⟩
            go_simp
            exact ⟨_, rfl, Fr.refl _ _, rfl, trivial⟩
          · have h0 : u 0 = _ := hR 0 (by kernel_rfl)
            clear hR k1 k0 kM
            simp only [h0]
            refine .inl ⟨by kernel_rfl, ?_⟩
            have hc := (claim_cells (HZ.out.later hf).b1 LL.out).1
            go_simp
            exact ⟨_, rfl, Fr.refl _ _, rfl, trivial⟩
          · clear hR k1 k0 kM
            refine .inl ⟨by kernel_rfl, ?_⟩
            go_simp
            exact ⟨_, rfl, Fr.refl _ _, rfl, trivial⟩
          · have h2 : u 2 = _ := hR 2 (by kernel_rfl)
            clear hR k1 k0 kM
            simp only [h2]
            refine .inl ⟨by kernel_rfl, ?_⟩
            have hc := (claim_cells (HZ.out.later hf).b1 LL.out).2.1
            go_simp
            exact ⟨_, rfl, Fr.refl _ _, rfl, trivial⟩
          · clear hR k1 k0 kM
            refine .inl ⟨by kernel_rfl, ?_⟩
            go_simp
            exact ⟨_, rfl, Fr.refl _ _, rfl, trivial⟩
          · have h4 : u 4 = _ := hR 4 (by kernel_rfl)
            clear hR k1 k0 kM
            simp only [h4]
            refine .inl ⟨by kernel_rfl, ?_⟩
            exact wp_load_mid _ _ rfl g1 0 rfl LV _ (claim_cells (HZ.out.later hf).b1 LL.out).2.2.2 Tryd.underlying23 rfl HLV.out ⟨_, rfl, Fr.refl _ _, rfl, trivial⟩
          · clear hR k1 k0 kM
            refine .inl ⟨by kernel_rfl, ?_⟩
            go_simp
            exact ⟨_, rfl, Fr.refl _ _, rfl, trivial⟩
          · have h6 : u 6 = _ := hR 6 (by kernel_rfl)
            clear hR k1 k0 kM
            simp only [h6]
            refine .inl ⟨by kernel_rfl, ?_⟩
            have hc := (claim_cells (HZ.out.later hf).b1 LL.out).2.2.1
            go_simp
            exact ⟨_, rfl, Fr.refl _ _, rfl, trivial⟩
          · have h7 : u 7 = _ := hR 7 (by kernel_rfl)
            clear hR k1 k0 kM
            simp only [h7]
            refine .inl ⟨by kernel_rfl, ?_⟩
            go_simp
            refine (CO.out _ (HZ.out.later hf).fr).mono ?_
            rintro e w4 ⟨v, rfl, hG⟩
            exact ⟨_, rfl, hG.fr0, OwnS.of hG HL.out HE.out, trivial⟩
          · have h5 : u 5 = _ := hR 5 (by kernel_rfl)
            obtain ⟨A8, c8, h8, l8, m8, T8, D8⟩ := hR 8 (by kernel_rfl)
            clear hR k1 k0 kM
            simp only [h5, h8]
            refine .inl ⟨by kernel_rfl, ?_⟩
            exact wp_buildTo 52 #[(0, .tmp 98), (1, .tmp 101)] rfl _ (by simp only [List.map_toArray, List.map_cons, List.map_nil]; exact built_proof LV LL.out A8 len c8) ⟨_, rfl, Fr.refl _ _, ⟨A8, c8, rfl, _, D8⟩, trivial⟩
          · clear hR k1 k0 kM
            refine .inl ⟨by kernel_rfl, ?_⟩
            go_simp
            exact ⟨_, rfl, Fr.refl _ _, rfl, trivial⟩
          · have h10 : u 10 = _ := hR 10 (by kernel_rfl)
            clear hR k1 k0 kM
            simp only [h10]
            refine .inl ⟨by kernel_rfl, ?_⟩
            exact wp_load_mid _ _ rfl g7 0 rfl LV2 _ (claim_cells (HZ.out.later hf).b7 LL2.out).2.2.2 Tryd.underlying23 rfl HLV2.out ⟨_, rfl, Fr.refl _ _, rfl, trivial⟩
          · clear hR k1 k0 kM
            refine .inl ⟨by kernel_rfl, ?_⟩
            go_simp
            exact ⟨_, rfl, Fr.refl _ _, rfl, trivial⟩
          · have h12 : u 12 = _ := hR 12 (by kernel_rfl)
            clear hR k1 k0 kM
            simp only [h12]
            refine .inl ⟨by kernel_rfl, ?_⟩
            have hc := (claim_cells (HZ.out.later hf).b7 LL2.out).2.2.1
            go_simp
            exact ⟨_, rfl, Fr.refl _ _, rfl, trivial⟩
          · have h13 : u 13 = _ := hR 13 (by kernel_rfl)
            clear hR k1 k0 kM
            simp only [h13]
            refine .inl ⟨by kernel_rfl, ?_⟩
            go_simp
            refine (CO2.out _ _ _ _ (HZ.out.later hf).dig).mono ?_
            rintro e w4 ⟨v, rfl, hG⟩
            exact ⟨_, rfl, hG.fr0, OwnS.of hG HL2.out HE2.out, trivial⟩
          · have h11 : u 11 = _ := hR 11 (by kernel_rfl)
            obtain ⟨A14, c14, h14, l14, m14, T14, D14⟩ := hR 14 (by kernel_rfl)
            clear hR k1 k0 kM
            simp only [h11, h14]
            refine .inl ⟨by kernel_rfl, ?_⟩
            exact wp_buildTo 52 #[(0, .tmp 104), (1, .tmp 107)] rfl _ (by simp only [List.map_toArray, List.map_cons, List.map_nil]; exact built_proof LV2 LL2.out A14 len c14) ⟨_, rfl, Fr.refl _ _, ⟨A14, c14, rfl, _, D14⟩, trivial⟩
          · have h1 : u 1 = _ := hR 1 (by kernel_rfl)
            have h3 : u 3 = _ := hR 3 (by kernel_rfl)
            obtain ⟨A9, c9, h9, T9, D9⟩ := hR 9 (by kernel_rfl)
            obtain ⟨A15, c15, h15, T15, D15⟩ := hR 15 (by kernel_rfl)
            clear hR k1 k0 kM
            simp only [h1, h3, h9, h15]
            refine .inl ⟨by kernel_rfl, ?_⟩
            go_simp
            refine (CC.out _ _ _ _ _ _ _ (HZ.out.later hf).fr D9 D15).mono ?_
            rintro e w4 ⟨rfl, f4⟩
            exact ⟨_, rfl, f4.weak, rfl, trivial⟩
          · have h16 : u 16 = _ := hR 16 (by kernel_rfl)
            clear hR k1 k0 kM
            simp only [h16]
            refine .inl ⟨by kernel_rfl, ?_⟩
            go_simp
            exact ⟨_, rfl, Fr.refl _ _, rfl, trivial⟩
          · have h17 : u 17 = _ := hR 17 (by kernel_rfl)
            clear hR k1 k0 kM
            simp only [h17]
            refine .inl ⟨by kernel_rfl, ?_⟩
            go_simp
            exact ⟨_, rfl, Fr.refl _ _, rfl, trivial⟩
          · have h17 : u 17 = _ := hR 17 (by kernel_rfl)
            clear hR k1 k0 kM
            simp only [h17]
            refine .inl ⟨by kernel_rfl, ?_⟩
            go_simp
            exact ⟨_, rfl, Fr.refl _ _, rfl, trivial⟩
          · have h17 : u 17 = _ := hR 17 (by kernel_rfl)
            clear hR k1 k0 kM
            simp only [h17]
            refine .inl ⟨by kernel_rfl, ?_⟩
            go_simp
            exact ⟨_, rfl, Fr.refl _ _, rfl, trivial⟩
          · have h18 : u 18 = _ := hR 18 (by kernel_rfl)
            clear hR k1 k0 kM
            simp only [h18]
            refine .inl ⟨by kernel_rfl, ?_⟩
            go_simp
            exact ⟨_, rfl, Fr.refl _ _, rfl, trivial⟩
          · have h19 : u 19 = _ := hR 19 (by kernel_rfl)
            clear hR k1 k0 kM
            simp only [h19]
            refine .inl ⟨by kernel_rfl, ?_⟩
            go_simp
            exact ⟨_, rfl, Fr.refl _ _, rfl, trivial⟩
          · have h20 : u 20 = _ := hR 20 (by kernel_rfl)
            clear hR k1 k0 kM
            simp only [h20]
            refine .inl ⟨by kernel_rfl, ?_⟩
            go_simp
            exact ⟨_, rfl, Fr.refl _ _, rfl, trivial⟩
        · intro u w' hf hR kM
          have h21 : u 21 = _ := hR 21 (by omega)
          have h22 : u 22 = _ := hR 22 (by omega)
          have h23 : u 23 = _ := hR 23 (by omega)
          clear hR kM
          simp only [List.take_succ_cons, List.take_zero, List.map_cons, List.map_nil, puts, Act.put, List.setIfInBounds_toArray, List.set_cons_zero, List.set_cons_succ, List.drop_succ_cons, List.drop_zero, Nat.reduceAdd, Nat.zero_add, h21, h22, h23]
          have HY := Lib.hid (HZ.out.later hf)
          have J9 := Lib.hid (J9f.out.fr hf (fun x => x))
          have J11 := Lib.hid (J11f.out.fr hf (fun x => x))
          clear hf HZ J9f J11f CX1 CX2 CO CO2 CC
          generalize w' = wy at *
          by_cases hE : E = 0
          case neg =>
            have t1 : (E != 0) = true := by rw [bne_iff_ne]; exact hE
            obtain ⟨rfl, rfl, rfl⟩ := NO.out (.inl hE)
            have FE := Lib.hid HY.out.fr
            clear hE
            go_wp2
            go_ret
            exact ⟨rfl, FE.out⟩
          subst hE
          by_cases hroot : ra = rb
          case neg =>
            have qr : Hid (∀ w : World, (binOp .neq 23 (.agg RA.toArray) (.agg RB.toArray)).run Tryd.prog w = .ok (.bool true) w) := fun w => by
              rw [qn.out, decide_eq_false hroot]
              rfl
            obtain ⟨rfl, rfl, rfl⟩ := NO.out (.inr (.inl hroot))
            clear hroot
            go_upto_region 11 with fail
            refine wp_region_sq 12 Nothing [Is (.int .i64 0), Is (.bool false), Is (.bool false), Is (.int .i64 0), Is (.bool false), Is (.bool false), Is (.bool false), Is (.agg RA.toArray), Is (.agg RB.toArray), Is (.bool true), Is (.bool true), Is (.bool true)] [] (fun _ => True) (fun _ _ => false) (by kernel_rfl) (by kernel_rfl) (by kernel_rfl) ⟨Is.stable _, Is.stable _, Is.stable _, Is.stable _, Is.stable _, Is.stable _, Is.stable _, Is.stable _, Is.stable _, Is.stable _, Is.stable _, Is.stable _, trivial⟩ trivial (fun _ _ _ _ h => h) trivial ?_ ?_
            · refine ⟨fun u w' d hf hR k1 k0 kM => ?_, fun u w' d hf hR k1 k0 kM => ?_, fun u w' d hf hR k1 k0 kM => ?_, fun u w' d hf hR k1 k0 kM => ?_, fun u w' d hf hR k1 k0 kM => ?_, fun u w' d hf hR k1 k0 kM => ?_, fun u w' d hf hR k1 k0 kM => ?_, fun u w' d hf hR k1 k0 kM => ?_, fun u w' d hf hR k1 k0 kM => ?_, fun u w' d hf hR k1 k0 kM => ?_, fun u w' d hf hR k1 k0 kM => ?_, fun u w' d hf hR k1 k0 kM => ?_, trivial⟩
              all_goals simp only [List.take_succ_cons, List.take_zero, List.map_cons, List.map_nil, puts, Act.put, List.setIfInBounds_toArray, List.set_cons_zero, List.set_cons_succ, Nat.reduceAdd, Nat.zero_add]
              · clear hR k1 k0 kM
                refine .inl ⟨by kernel_rfl, ?_⟩
                go_simp
                exact ⟨_, rfl, Fr.refl _ _, rfl, trivial⟩
              · have h0 : u 0 = _ := hR 0 (by kernel_rfl)
                clear hR k1 k0 kM
                simp only [h0]
                refine .inl ⟨by kernel_rfl, ?_⟩
                go_simp
                exact ⟨_, rfl, Fr.refl _ _, rfl, trivial⟩
              · have h1 : u 1 = _ := hR 1 (by kernel_rfl)
                clear hR k1 k0 kM
                simp only [h1]
                refine .inl ⟨by kernel_rfl, ?_⟩
                go_simp
                exact ⟨_, rfl, Fr.refl _ _, rfl, trivial⟩
              · have h2 : u 2 = _ := hR 2 (by kernel_rfl)
                clear hR k1 k0 kM
                simp only [h2]
                refine .inl ⟨by kernel_rfl, ?_⟩
                go_simp
                exact ⟨_, rfl, Fr.refl _ _, rfl, trivial⟩
              · have h3 : u 3 = _ := hR 3 (by kernel_rfl)
                have h2 : u 2 = _ := hR 2 (by kernel_rfl)
                clear hR k1 k0 kM
                simp only [h3, h2]
                refine .inl ⟨by kernel_rfl, ?_⟩
                go_simp
                exact ⟨_, rfl, Fr.refl _ _, rfl, trivial⟩
              · have h2 : u 2 = _ := hR 2 (by kernel_rfl)
                have h4 : u 4 = _ := hR 4 (by kernel_rfl)
                clear hR k1 k0 kM
                simp only [h2, h4]
                refine .inl ⟨by kernel_rfl, ?_⟩
                go_simp
                exact ⟨_, rfl, Fr.refl _ _, rfl, trivial⟩
              · have h5 : u 5 = _ := hR 5 (by kernel_rfl)
                clear hR k1 k0 kM
                simp only [h5]
                refine .inl ⟨by kernel_rfl, ?_⟩
                go_simp
                exact ⟨_, rfl, Fr.refl _ _, rfl, trivial⟩
              · have h6 : u 6 = _ := hR 6 (by kernel_rfl)
                clear hR k1 k0 kM
                simp only [h6]
                refine .inl ⟨by kernel_rfl, ?_⟩
                exact wp_load_mid _ _ rfl g9 0 rfl RA _ (range_blk (J9.out.fr hf (fun x => x))) Tryd.underlying23 rfl IRA.out ⟨_, rfl, Fr.refl _ _, rfl, trivial⟩
              · have h6 : u 6 = _ := hR 6 (by kernel_rfl)
                clear hR k1 k0 kM
                simp only [h6]
                refine .inl ⟨by kernel_rfl, ?_⟩
                exact wp_load_mid _ _ rfl g11 0 rfl RB _ (range_blk (J11.out.fr hf (fun x => x))) Tryd.underlying23 rfl IRB.out ⟨_, rfl, Fr.refl _ _, rfl, trivial⟩
              · have h7 : u 7 = _ := hR 7 (by kernel_rfl)
                have h8 : u 8 = _ := hR 8 (by kernel_rfl)
                have h6 : u 6 = _ := hR 6 (by kernel_rfl)
                clear hR k1 k0 kM
                simp only [h7, h8, h6]
                refine .inl ⟨by kernel_rfl, ?_⟩
                exact wp_binAgg _ _ _ _ _ rfl _ _ rfl rfl Tryd.eqGuardType23 _ (qr.out _) ⟨_, rfl, Fr.refl _ _, rfl, trivial⟩
              · have h6 : u 6 = _ := hR 6 (by kernel_rfl)
                have h9 : u 9 = _ := hR 9 (by kernel_rfl)
                clear hR k1 k0 kM
                simp only [h6, h9]
                refine .inl ⟨by kernel_rfl, ?_⟩
                go_simp
                exact ⟨_, rfl, Fr.refl _ _, rfl, trivial⟩
              · have h10 : u 10 = _ := hR 10 (by kernel_rfl)
                clear hR k1 k0 kM
                simp only [h10]
                refine .inl ⟨by kernel_rfl, ?_⟩
                go_simp
                exact ⟨_, rfl, Fr.refl _ _, rfl, trivial⟩
            · intro u w' hf hR kM
              have h11 : u 11 = _ := hR 11 (by omega)
              clear hR kM
              simp only [List.take_succ_cons, List.take_zero, List.map_cons, List.map_nil, puts, Act.put, List.setIfInBounds_toArray, List.set_cons_zero, List.set_cons_succ, List.drop_succ_cons, List.drop_zero, Nat.reduceAdd, Nat.zero_add, h11]
              have FE := Lib.hid (HY.out.fr.trans hf)
              clear hf J9 J11
              go_wp2
              go_ret
              exact ⟨rfl, FE.out⟩
          have qr : Hid (∀ w : World, (binOp .neq 23 (.agg RA.toArray) (.agg RB.toArray)).run Tryd.prog w = .ok (.bool false) w) := fun w => by
            rw [qn.out, decide_eq_true hroot]
            rfl
          by_cases hbb : bb = 0
          case pos =>
            obtain ⟨rfl, rfl, rfl⟩ := NO.out (.inr (.inr hbb))
            have t2 : (((bb.toNat : Nat) : Int) == 0) = true := by rw [hbb]; rfl
            clear hroot hbb
            go_upto_region 11 with fail
            refine wp_region_sq 15 Nothing [Is (.int .i64 0), Is (.bool false), Is (.bool false), Is (.int .i64 0), Is (.bool false), Is (.bool false), Is (.bool false), Is (.agg RA.toArray), Is (.agg RB.toArray), Is (.bool false), Is (.bool false), Is (.bool false), Is (.int .u8 ((bb.toNat : Nat) : Int)), Is (.bool true), Is (.bool true)] [] (fun _ => True) (fun _ _ => false) (by kernel_rfl) (by kernel_rfl) (by kernel_rfl) ⟨Is.stable _, Is.stable _, Is.stable _, Is.stable _, Is.stable _, Is.stable _, Is.stable _, Is.stable _, Is.stable _, Is.stable _, Is.stable _, Is.stable _, Is.stable _, Is.stable _, Is.stable _, trivial⟩ trivial (fun _ _ _ _ h => h) trivial ?_ ?_
            · refine ⟨fun u w' d hf hR k1 k0 kM => ?_, fun u w' d hf hR k1 k0 kM => ?_, fun u w' d hf hR k1 k0 kM => ?_, fun u w' d hf hR k1 k0 kM => ?_, fun u w' d hf hR k1 k0 kM => ?_, fun u w' d hf hR k1 k0 kM => ?_, fun u w' d hf hR k1 k0 kM => ?_, fun u w' d hf hR k1 k0 kM => ?_, fun u w' d hf hR k1 k0 kM => ?_, fun u w' d hf hR k1 k0 kM => ?_, fun u w' d hf hR k1 k0 kM => ?_, fun u w' d hf hR k1 k0 kM => ?_, fun u w' d hf hR k1 k0 kM => ?_, fun u w' d hf hR k1 k0 kM => ?_, fun u w' d hf hR k1 k0 kM => ?_, trivial⟩
              all_goals simp only [List.take_succ_cons, List.take_zero, List.map_cons, List.map_nil, puts, Act.put, List.setIfInBounds_toArray, List.set_cons_zero, List.set_cons_succ, Nat.reduceAdd, Nat.zero_add]
              · clear hR k1 k0 kM
                refine .inl ⟨by kernel_rfl, ?_⟩
                go_simp
                exact ⟨_, rfl, Fr.refl _ _, rfl, trivial⟩
              · have h0 : u 0 = _ := hR 0 (by kernel_rfl)
                clear hR k1 k0 kM
                simp only [h0]
                refine .inl ⟨by kernel_rfl, ?_⟩
                go_simp
                exact ⟨_, rfl, Fr.refl _ _, rfl, trivial⟩
              · have h1 : u 1 = _ := hR 1 (by kernel_rfl)
                clear hR k1 k0 kM
                simp only [h1]
                refine .inl ⟨by kernel_rfl, ?_⟩
                go_simp
                exact ⟨_, rfl, Fr.refl _ _, rfl, trivial⟩
              · have h2 : u 2 = _ := hR 2 (by kernel_rfl)
                clear hR k1 k0 kM
                simp only [h2]
                refine .inl ⟨by kernel_rfl, ?_⟩
                go_simp
                exact ⟨_, rfl, Fr.refl _ _, rfl, trivial⟩
              · have h3 : u 3 = _ := hR 3 (by kernel_rfl)
                have h2 : u 2 = _ := hR 2 (by kernel_rfl)
                clear hR k1 k0 kM
                simp only [h3, h2]
                refine .inl ⟨by kernel_rfl, ?_⟩
                go_simp
                exact ⟨_, rfl, Fr.refl _ _, rfl, trivial⟩
              · have h2 : u 2 = _ := hR 2 (by kernel_rfl)
                have h4 : u 4 = _ := hR 4 (by kernel_rfl)
                clear hR k1 k0 kM
                simp only [h2, h4]
                refine .inl ⟨by kernel_rfl, ?_⟩
                go_simp
                exact ⟨_, rfl, Fr.refl _ _, rfl, trivial⟩
              · have h5 : u 5 = _ := hR 5 (by kernel_rfl)
                clear hR k1 k0 kM
                simp only [h5]
                refine .inl ⟨by kernel_rfl, ?_⟩
                go_simp
                exact ⟨_, rfl, Fr.refl _ _, rfl, trivial⟩
              · have h6 : u 6 = _ := hR 6 (by kernel_rfl)
                clear hR k1 k0 kM
                simp only [h6]
                refine .inl ⟨by kernel_rfl, ?_⟩
                exact wp_load_mid _ _ rfl g9 0 rfl RA _ (range_blk (J9.out.fr hf (fun x => x))) Tryd.underlying23 rfl IRA.out ⟨_, rfl, Fr.refl _ _, rfl, trivial⟩
              · have h6 : u 6 = _ := hR 6 (by kernel_rfl)
                clear hR k1 k0 kM
                simp only [h6]
                refine .inl ⟨by kernel_rfl, ?_⟩
                exact wp_load_mid _ _ rfl g11 0 rfl RB _ (range_blk (J11.out.fr hf (fun x => x))) Tryd.underlying23 rfl IRB.out ⟨_, rfl, Fr.refl _ _, rfl, trivial⟩
              · have h7 : u 7 = _ := hR 7 (by kernel_rfl)
                have h8 : u 8 = _ := hR 8 (by kernel_rfl)
                have h6 : u 6 = _ := hR 6 (by kernel_rfl)
                clear hR k1 k0 kM
                simp only [h7, h8, h6]
                refine .inl ⟨by kernel_rfl, ?_⟩
                exact wp_binAgg _ _ _ _ _ rfl _ _ rfl rfl Tryd.eqGuardType23 _ (qr.out _) ⟨_, rfl, Fr.refl _ _, rfl, trivial⟩
              · have h6 : u 6 = _ := hR 6 (by kernel_rfl)
                have h9 : u 9 = _ := hR 9 (by kernel_rfl)
                clear hR k1 k0 kM
                simp only [h6, h9]
                refine .inl ⟨by kernel_rfl, ?_⟩
                go_simp
                exact ⟨_, rfl, Fr.refl _ _, rfl, trivial⟩
              · have h10 : u 10 = _ := hR 10 (by kernel_rfl)
                clear hR k1 k0 kM
                simp only [h10]
                refine .inl ⟨by kernel_rfl, ?_⟩
                go_simp
                exact ⟨_, rfl, Fr.refl _ _, rfl, trivial⟩
              · have h11 : u 11 = _ := hR 11 (by kernel_rfl)
                clear hR k1 k0 kM
                simp only [h11]
                refine .inl ⟨by kernel_rfl, ?_⟩
                go_simp
                exact ⟨_, rfl, Fr.refl _ _, rfl, trivial⟩
              · have h12 : u 12 = _ := hR 12 (by kernel_rfl)
                have h11 : u 11 = _ := hR 11 (by kernel_rfl)
                clear hR k1 k0 kM
                simp only [h12, h11]
                refine .inl ⟨by kernel_rfl, ?_⟩
                go_simp
                exact ⟨_, rfl, Fr.refl _ _, rfl, trivial⟩
              · have h11 : u 11 = _ := hR 11 (by kernel_rfl)
                have h13 : u 13 = _ := hR 13 (by kernel_rfl)
                clear hR k1 k0 kM
                simp only [h11, h13]
                refine .inl ⟨by kernel_rfl, ?_⟩
                go_simp
                exact ⟨_, rfl, Fr.refl _ _, rfl, trivial⟩
            · intro u w' hf hR kM
              have h14 : u 14 = _ := hR 14 (by omega)
              clear hR kM
              simp only [List.take_succ_cons, List.take_zero, List.map_cons, List.map_nil, puts, Act.put, List.setIfInBounds_toArray, List.set_cons_zero, List.set_cons_succ, List.drop_succ_cons, List.drop_zero, Nat.reduceAdd, Nat.zero_add, h14]
              have FE := Lib.hid (HY.out.fr.trans hf)
              clear hf J9 J11
              go_wp2
              go_ret
              exact ⟨rfl, FE.out⟩
          have t2 : (((bb.toNat : Nat) : Int) == 0) = false := by
            rw [beq_eq_false_iff_ne]
            intro h
            exact hbb (UInt8.toNat_inj.1 (by rw [show (0 : UInt8).toNat = 0 from rfl]; omega))
          obtain ⟨rfl, t3, CS1, CS2⟩ := YES.out rfl hroot hbb
          clear hroot hbb YES NO
          go_upto_region 11 with fail
          refine wp_region_sq 15 Nothing [Is (.int .i64 0), Is (.bool false), Is (.bool false), Is (.int .i64 0), Is (.bool false), Is (.bool false), Is (.bool false), Is (.agg RA.toArray), Is (.agg RB.toArray), Is (.bool false), Is (.bool false), Is (.bool false), Is (.int .u8 ((bb.toNat : Nat) : Int)), Is (.bool false), Is (.bool false)] [] (fun _ => True) (fun _ _ => false) (by kernel_rfl) (by kernel_rfl) (by kernel_rfl) ⟨Is.stable _, Is.stable _, Is.stable _, Is.stable _, Is.stable _, Is.stable _, Is.stable _, Is.stable _, Is.stable _, Is.stable _, Is.stable _, Is.stable _, Is.stable _, Is.stable _, Is.stable _, trivial⟩ trivial (fun _ _ _ _ h => h) trivial ?_ ?_
          · refine ⟨fun u w' d hf hR k1 k0 kM => ?_, fun u w' d hf hR k1 k0 kM => ?_, fun u w' d hf hR k1 k0 kM => ?_, fun u w' d hf hR k1 k0 kM => ?_, fun u w' d hf hR k1 k0 kM => ?_, fun u w' d hf hR k1 k0 kM => ?_, fun u w' d hf hR k1 k0 kM => ?_, fun u w' d hf hR k1 k0 kM => ?_, fun u w' d hf hR k1 k0 kM => ?_, fun u w' d hf hR k1 k0 kM => ?_, fun u w' d hf hR k1 k0 kM => ?_, fun u w' d hf hR k1 k0 kM => ?_, fun u w' d hf hR k1 k0 kM => ?_, fun u w' d hf hR k1 k0 kM => ?_, fun u w' d hf hR k1 k0 kM => ?_, trivial⟩
            all_goals simp only [List.take_succ_cons, List.take_zero, List.map_cons, List.map_nil, puts, Act.put, List.setIfInBounds_toArray, List.set_cons_zero, List.set_cons_succ, Nat.reduceAdd, Nat.zero_add]
            · clear hR k1 k0 kM
              refine .inl ⟨by kernel_rfl, ?_⟩
              go_simp
              exact ⟨_, rfl, Fr.refl _ _, rfl, trivial⟩
            · have h0 : u 0 = _ := hR 0 (by kernel_rfl)
              clear hR k1 k0 kM
              simp only [h0]
              refine .inl ⟨by kernel_rfl, ?_⟩
              go_simp
              exact ⟨_, rfl, Fr.refl _ _, rfl, trivial⟩
            · have h1 : u 1 = _ := hR 1 (by kernel_rfl)
              clear hR k1 k0 kM
              simp only [h1]
              refine .inl ⟨by kernel_rfl, ?_⟩
              go_simp
              exact ⟨_, rfl, Fr.refl _ _, rfl, trivial⟩
            · have h2 : u 2 = _ := hR 2 (by kernel_rfl)
              clear hR k1 k0 kM
              simp only [h2]
              refine .inl ⟨by kernel_rfl, ?_⟩
              go_simp
              exact ⟨_, rfl, Fr.refl _ _, rfl, trivial⟩
            · have h3 : u 3 = _ := hR 3 (by kernel_rfl)
              have h2 : u 2 = _ := hR 2 (by kernel_rfl)
              clear hR k1 k0 kM
              simp only [h3, h2]
              refine .inl ⟨by kernel_rfl, ?_⟩
              go_simp
              exact ⟨_, rfl, Fr.refl _ _, rfl, trivial⟩
            · have h2 : u 2 = _ := hR 2 (by kernel_rfl)
              have h4 : u 4 = _ := hR 4 (by kernel_rfl)
              clear hR k1 k0 kM
              simp only [h2, h4]
              refine .inl ⟨by kernel_rfl, ?_⟩
              go_simp
              exact ⟨_, rfl, Fr.refl _ _, rfl, trivial⟩
            · have h5 : u 5 = _ := hR 5 (by kernel_rfl)
              clear hR k1 k0 kM
              simp only [h5]
              refine .inl ⟨by kernel_rfl, ?_⟩
              go_simp
              exact ⟨_, rfl, Fr.refl _ _, rfl, trivial⟩
            · have h6 : u 6 = _ := hR 6 (by kernel_rfl)
              clear hR k1 k0 kM
              simp only [h6]
              refine .inl ⟨by kernel_rfl, ?_⟩
              exact wp_load_mid _ _ rfl g9 0 rfl RA _ (range_blk (J9.out.fr hf (fun x => x))) Tryd.underlying23 rfl IRA.out ⟨_, rfl, Fr.refl _ _, rfl, trivial⟩
            · have h6 : u 6 = _ := hR 6 (by kernel_rfl)
              clear hR k1 k0 kM
              simp only [h6]
              refine .inl ⟨by kernel_rfl, ?_⟩
              exact wp_load_mid _ _ rfl g11 0 rfl RB _ (range_blk (J11.out.fr hf (fun x => x))) Tryd.underlying23 rfl IRB.out ⟨_, rfl, Fr.refl _ _, rfl, trivial⟩
            · have h7 : u 7 = _ := hR 7 (by kernel_rfl)
              have h8 : u 8 = _ := hR 8 (by kernel_rfl)
              have h6 : u 6 = _ := hR 6 (by kernel_rfl)
              clear hR k1 k0 kM
              simp only [h7, h8, h6]
              refine .inl ⟨by kernel_rfl, ?_⟩
              exact wp_binAgg _ _ _ _ _ rfl _ _ rfl rfl Tryd.eqGuardType23 _ (qr.out _) ⟨_, rfl, Fr.refl _ _, rfl, trivial⟩
            · have h6 : u 6 = _ := hR 6 (by kernel_rfl)
              have h9 : u 9 = _ := hR 9 (by kernel_rfl)
              clear hR k1 k0 kM
              simp only [h6, h9]
              refine .inl ⟨by kernel_rfl, ?_⟩
              go_simp
              exact ⟨_, rfl, Fr.refl _ _, rfl, trivial⟩
            · have h10 : u 10 = _ := hR 10 (by kernel_rfl)
              clear hR k1 k0 kM
              simp only [h10]
              refine .inl ⟨by kernel_rfl, ?_⟩
              go_simp
              exact ⟨_, rfl, Fr.refl _ _, rfl, trivial⟩
            · have h11 : u 11 = _ := hR 11 (by kernel_rfl)
              clear hR k1 k0 kM
              simp only [h11]
              refine .inl ⟨by kernel_rfl, ?_⟩
              go_simp
              exact ⟨_, rfl, Fr.refl _ _, rfl, trivial⟩
            · have h12 : u 12 = _ := hR 12 (by kernel_rfl)
              have h11 : u 11 = _ := hR 11 (by kernel_rfl)
              clear hR k1 k0 kM
              simp only [h12, h11]
              refine .inl ⟨by kernel_rfl, ?_⟩
              go_simp
              exact ⟨_, rfl, Fr.refl _ _, rfl, trivial⟩
            · have h11 : u 11 = _ := hR 11 (by kernel_rfl)
              have h13 : u 13 = _ := hR 13 (by kernel_rfl)
              clear hR k1 k0 kM
              simp only [h11, h13]
              refine .inl ⟨by kernel_rfl, ?_⟩
              go_simp
              exact ⟨_, rfl, Fr.refl _ _, rfl, trivial⟩
          · intro u w' hf hR kM
            have h14 : u 14 = _ := hR 14 (by omega)
            clear hR kM
            simp only [List.take_succ_cons, List.take_zero, List.map_cons, List.map_nil, puts, Act.put, List.setIfInBounds_toArray, List.set_cons_zero, List.set_cons_succ, List.drop_succ_cons, List.drop_zero, Nat.reduceAdd, Nat.zero_add, h14]
            have FE := Lib.hid (HY.out.fr.trans hf)
            clear hf J9 J11
            go_upto_region 13 with fail
            refine wp_region_sq 13 Nothing [Is (.bool true), Is (.bool true), Is (.string XS), Is (.string YS), Is (.bool true), Is (.bool true), Is (.bool true), Is (.string XS), Is (.agg QV.toArray), Is (.string YS), Is (.agg QV.toArray), Is (.bool true), Is (.bool true)] [] (fun _ => True) (fun _ _ => false) (by kernel_rfl) (by kernel_rfl) (by kernel_rfl) ⟨Is.stable _, Is.stable _, Is.stable _, Is.stable _, Is.stable _, Is.stable _, Is.stable _, Is.stable _, Is.stable _, Is.stable _, Is.stable _, Is.stable _, Is.stable _, trivial⟩ trivial (fun _ _ _ _ h => h) trivial ?_ ?_
            · refine ⟨fun u w' d hf hR k1 k0 kM => ?_, fun u w' d hf hR k1 k0 kM => ?_, fun u w' d hf hR k1 k0 kM => ?_, fun u w' d hf hR k1 k0 kM => ?_, fun u w' d hf hR k1 k0 kM => ?_, fun u w' d hf hR k1 k0 kM => ?_, fun u w' d hf hR k1 k0 kM => ?_, fun u w' d hf hR k1 k0 kM => ?_, fun u w' d hf hR k1 k0 kM => ?_, fun u w' d hf hR k1 k0 kM => ?_, fun u w' d hf hR k1 k0 kM => ?_, fun u w' d hf hR k1 k0 kM => ?_, fun u w' d hf hR k1 k0 kM => ?_, trivial⟩
              all_goals simp only [List.take_succ_cons, List.take_zero, List.map_cons, List.map_nil, puts, Act.put, List.setIfInBounds_toArray, List.set_cons_zero, List.set_cons_succ, Nat.reduceAdd, Nat.zero_add]
              · clear hR k1 k0 kM
                refine .inl ⟨by kernel_rfl, ?_⟩
                go_simp
                exact ⟨_, rfl, Fr.refl _ _, rfl, trivial⟩
              · have h0 : u 0 = _ := hR 0 (by kernel_rfl)
                clear hR k1 k0 kM
                simp only [h0]
                refine .inl ⟨by kernel_rfl, ?_⟩
                go_simp
                exact ⟨_, rfl, Fr.refl _ _, rfl, trivial⟩
              · have h1 : u 1 = _ := hR 1 (by kernel_rfl)
                clear hR k1 k0 kM
                simp only [h1]
                refine .inl ⟨by kernel_rfl, ?_⟩
                go_simp
                exact ⟨_, rfl, Fr.refl _ _, rfl, trivial⟩
              · have h1 : u 1 = _ := hR 1 (by kernel_rfl)
                clear hR k1 k0 kM
                simp only [h1]
                refine .inl ⟨by kernel_rfl, ?_⟩
                go_simp
                exact ⟨_, rfl, Fr.refl _ _, rfl, trivial⟩
              · have h2 : u 2 = _ := hR 2 (by kernel_rfl)
                have h3 : u 3 = _ := hR 3 (by kernel_rfl)
                have h1 : u 1 = _ := hR 1 (by kernel_rfl)
                clear hR k1 k0 kM
                simp only [h2, h3, h1]
                refine .inl ⟨by kernel_rfl, ?_⟩
                go_simp
                exact ⟨_, rfl, Fr.refl _ _, rfl, trivial⟩
              · have h1 : u 1 = _ := hR 1 (by kernel_rfl)
                have h4 : u 4 = _ := hR 4 (by kernel_rfl)
                clear hR k1 k0 kM
                simp only [h1, h4]
                refine .inl ⟨by kernel_rfl, ?_⟩
                go_simp
                exact ⟨_, rfl, Fr.refl _ _, rfl, trivial⟩
              · have h5 : u 5 = _ := hR 5 (by kernel_rfl)
                clear hR k1 k0 kM
                simp only [h5]
                refine .inl ⟨by kernel_rfl, ?_⟩
                go_simp
                exact ⟨_, rfl, Fr.refl _ _, rfl, trivial⟩
              · have h6 : u 6 = _ := hR 6 (by kernel_rfl)
                clear hR k1 k0 kM
                simp only [h6]
                refine .inl ⟨by kernel_rfl, ?_⟩
                go_simp
                exact ⟨_, rfl, Fr.refl _ _, rfl, trivial⟩
              · have h7 : u 7 = _ := hR 7 (by kernel_rfl)
                have h6 : u 6 = _ := hR 6 (by kernel_rfl)
                clear hR k1 k0 kM
                simp only [h7, h6]
                refine .inl ⟨by kernel_rfl, ?_⟩
                go_simp
                refine (CS1.out _).mono ?_
                rintro e w4 ⟨rfl, f4⟩
                exact ⟨_, rfl, f4.weak, rfl, trivial⟩
              · have h6 : u 6 = _ := hR 6 (by kernel_rfl)
                clear hR k1 k0 kM
                simp only [h6]
                refine .inl ⟨by kernel_rfl, ?_⟩
                go_simp
                exact ⟨_, rfl, Fr.refl _ _, rfl, trivial⟩
              · have h9 : u 9 = _ := hR 9 (by kernel_rfl)
                have h6 : u 6 = _ := hR 6 (by kernel_rfl)
                clear hR k1 k0 kM
                simp only [h9, h6]
                refine .inl ⟨by kernel_rfl, ?_⟩
                go_simp
                refine (CS2.out _).mono ?_
                rintro e w4 ⟨rfl, f4⟩
                exact ⟨_, rfl, f4.weak, rfl, trivial⟩
              · have h8 : u 8 = _ := hR 8 (by kernel_rfl)
                have h10 : u 10 = _ := hR 10 (by kernel_rfl)
                have h6 : u 6 = _ := hR 6 (by kernel_rfl)
                clear hR k1 k0 kM
                simp only [h8, h10, h6]
                refine .inl ⟨by kernel_rfl, ?_⟩
                exact wp_binAgg _ _ _ _ _ rfl _ _ rfl rfl Tryd.eqGuardType23 _ (qs.out _) ⟨_, rfl, Fr.refl _ _, rfl, trivial⟩
              · have h6 : u 6 = _ := hR 6 (by kernel_rfl)
                have h11 : u 11 = _ := hR 11 (by kernel_rfl)
                clear hR k1 k0 kM
                simp only [h6, h11]
                refine .inl ⟨by kernel_rfl, ?_⟩
                go_simp
                exact ⟨_, rfl, Fr.refl _ _, rfl, trivial⟩
            · intro u w' hf hR kM
              have h12 : u 12 = _ := hR 12 (by omega)
              clear hR kM
              simp only [List.take_succ_cons, List.take_zero, List.map_cons, List.map_nil, puts, Act.put, List.setIfInBounds_toArray, List.set_cons_zero, List.set_cons_succ, List.drop_succ_cons, List.drop_zero, Nat.reduceAdd, Nat.zero_add, h12]
              have FG := Lib.hid (FE.out.trans hf)
              clear hf FE
              go_wp2
              go_ret
              exact ⟨rfl, FG.out⟩
end Go.Proofs.YtkaghbpdnmigmaaDoor
