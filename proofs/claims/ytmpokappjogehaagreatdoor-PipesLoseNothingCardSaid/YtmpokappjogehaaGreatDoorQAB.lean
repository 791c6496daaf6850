/- Steps of the proof of LawPipesLoseNothing: contracts of the functions that the law reaches, for every world that holds what each of them asks. -/
import Derived.WalkKit
import Derived.WalkSpells
import Derived.WalkLawsBesides
import Derived.Lib.Hide
import Derived.Laws.OwnMore
import Derived.Deep.AppendLies
import Derived.Deep.Draws
import Derived.Laws.Rows
import Derived.Maps.AppendAt
import Derived.RegionTactic
import Derived.OwnWalk
import Derived.Lib.AppendStr
import Derived.Deep.QuietTactic
import Derived.BigQuiet
import Derived.Deep.Slices
import Derived.Deep.Fields
import Derived.OpenShut
import Derived.Test.YtmpokappjogehaaGreatDoorProg
import Derived.Lib.LazyBuf
import Derived.Lib.SliceRun
import Derived.Lib.ReflectliteSwap
import Derived.Laws.Tables
import Derived.Deep.DeepCutAuto
import Derived.Great.Ranges
set_option linter.unusedVariables false
set_option linter.unusedSimpArgs false
/- Words for memory that all proofs of this seat use: frames by sets of blocks, slices that read as lists, blocks that are known whole. Plain lemmas over any program; no condition. -/
namespace Go.Proofs.YtmpokappjogehaaGreatDoor
open Go.RowKit

/-- Of the blocks that were there only those of T may have turned. -/
structure Fr (T : Nat → Prop) (w w' : World) : Prop where
  os : w'.os = w.os
  tape : w'.tape = w.tape
  output : w'.output = w.output
  size : w.heap.size ≤ w'.heap.size
  block : ∀ k, k < w.heap.size → ¬ T k → w'.heap[k]? = w.heap[k]?

def Nothing : Nat → Prop := fun _ => False
def Rows1 (v : Value) : Nat → Prop := fun k => v.ownBlock = some k

section
variable {T T' : Nat → Prop} {a b c w w' : World}
theorem Fr.refl (T : Nat → Prop) (w : World) : Fr T w w := ⟨rfl, rfl, rfl, Nat.le_refl _, fun _ _ _ => rfl⟩
theorem Fr.trans (h : Fr T a b) (k : Fr T b c) : Fr T a c :=
  ⟨k.os.trans h.os, k.tape.trans h.tape, k.output.trans h.output, Nat.le_trans h.size k.size, fun i hi ht => (k.block i (Nat.lt_of_lt_of_le hi h.size) ht).trans (h.block i hi ht)⟩
/-- Two steps: what the second may turn is new or one of T. -/
theorem Fr.then_ (h : Fr T a b) (k : Fr T' b c) (hT : ∀ i, i < a.heap.size → T' i → T i) : Fr T a c :=
  ⟨k.os.trans h.os, k.tape.trans h.tape, k.output.trans h.output, Nat.le_trans h.size k.size, fun i hi ht => (k.block i (Nat.lt_of_lt_of_le hi h.size) (fun h' => ht (hT i hi h'))).trans (h.block i hi ht)⟩
theorem Fr.mono (h : Fr T a b) (hT : ∀ i, i < a.heap.size → T i → T' i) : Fr T' a b :=
  ⟨h.os, h.tape, h.output, h.size, fun i hi ht => h.block i hi (fun h' => ht (hT i hi h'))⟩
theorem Fr.weak (h : Fr Nothing a b) : Fr T a b := h.mono (fun _ _ x => x.elim)
theorem Fr.drew (h : Fr T a w) : Fr T a w.drew := ⟨h.os, h.tape, h.output, h.size, h.block⟩
theorem Fr.drewN (h : Fr T a w) (n : Nat) : Fr T a (w.drewN n) := ⟨h.os, h.tape, h.output, h.size, h.block⟩
theorem Fr.alloc (h : Fr T a w) (o : Obj) : Fr T a (w.alloc o) :=
  h.trans ⟨rfl, rfl, rfl, by simp, fun k hk _ => Below.heap_alloc _ _ _ hk⟩
theorem Fr.setCell (h : Fr T a w) {p : Addr} (hp : p.block < a.heap.size → T p.block) (u : Value) : Fr T a (w.setCell p u) :=
  h.then_ (T' := fun k => k = p.block) ⟨rfl, rfl, rfl, by simp [World.setCell], fun k _ ht => Below.heap_setCell _ _ _ _ ht⟩ (fun i hi e => by subst e; exact hp hi)
theorem Fr.grown {row : Option Nat} (hg : w.grownBy w' row) : Fr (fun k => some k = row) w w' := ⟨hg.os, hg.tape, hg.output, hg.size, hg.block⟩
theorem Fr.below {B : Nat} (h : Fr T a b) (hB : B ≤ a.heap.size) (hT : ∀ i, T i → B ≤ i) : Below B a b :=
  ⟨h.os, h.tape, h.output, h.size, fun k hk => h.block k (by omega) (fun h' => by have := hT k h'; omega)⟩
theorem Fr.below0 (h : Fr Nothing a b) : Below a.heap.size a b := h.below (Nat.le_refl _) (fun _ x => x.elim)
theorem Fr.cell (h : Fr T a b) {p : Addr} (hp : p.block < a.heap.size) (ht : ¬ T p.block) : b.cell? p = a.cell? p := World.cell?_of_block (h.block p.block hp ht)
theorem Fr.frozen (h : Fr T a b) {p : Addr} (hp : p.block < a.heap.size) (ht : ¬ T p.block) : b.frozen? p = a.frozen? p := World.frozen?_of_block (h.block p.block hp ht)
theorem Fr.cellSome (h : Fr T a b) {p : Addr} {v : Value} (hv : a.cell? p = some v) (ht : ¬ T p.block) : b.cell? p = some v := (h.cell (World.block_lt_of_cell? a p hv) ht).trans hv
end

theorem block_of_add (a : Addr) (n : Nat) : (a.add n).block = a.block := by unfold Addr.add; split <;> rfl
theorem add_of_add (a : Addr) (i j : Nat) : (a.add i).add j = a.add (i + j) := by
  unfold Addr.add
  by_cases hi : i = 0 <;> by_cases hj : j = 0 <;> simp [hi, hj, Nat.add_assoc]

/-- The slice value '.slice A n c' holds the cells xs ('size' cells an element), in a block of S. -/
def Rd (w : World) (S : Nat → Prop) (size : Nat) (A : Option Addr) (n : Nat) (xs : List Value) : Prop :=
  xs.length = n * size ∧ (0 < n → ∃ ad, A = some ad ∧ S ad.block ∧ ∀ j u, xs[j]? = some u → w.cell? (ad.add j) = some u)

section
variable {w w' : World} {S S' T : Nat → Prop} {size n : Nat} {A : Option Addr} {xs : List Value}
theorem Rd.none_ : Rd w S size A 0 [] := ⟨by simp, fun h => absurd h (by omega)⟩
theorem Rd.at_ {k : Nat} (h : Rd w S 1 A n xs) (hk : k < n) : ∃ ad u, A = some ad ∧ S ad.block ∧ xs[k]? = some u ∧ w.cell? (ad.add k) = some u := by
  obtain ⟨ad, e, hb, hc⟩ := h.2 (by omega)
  have hl : k < xs.length := by have := h.1; omega
  exact ⟨ad, xs[k], e, hb, List.getElem?_eq_getElem hl, hc k _ (List.getElem?_eq_getElem hl)⟩
theorem Rd.keep (h : Rd w S size A n xs) (hk : ∀ p : Addr, S p.block → ∀ u, w.cell? p = some u → w'.cell? p = some u) : Rd w' S size A n xs :=
  ⟨h.1, fun hn => by
    obtain ⟨ad, e, hb, hc⟩ := h.2 hn
    exact ⟨ad, e, hb, fun j u hu => hk _ (by rw [block_of_add]; exact hb) u (hc j u hu)⟩⟩
theorem Rd.fr (h : Rd w S size A n xs) (hf : Fr T w w') (hd : ∀ k, S k → ¬ T k) : Rd w' S size A n xs := h.keep fun _ hp _ hu => hf.cellSome hu (hd _ hp)
theorem Rd.fr0 (h : Rd w S size A n xs) (hf : Fr Nothing w w') : Rd w' S size A n xs := h.fr hf (fun _ _ x => x)
theorem Rd.mono (h : Rd w S size A n xs) (hS : ∀ k, S k → S' k) : Rd w S' size A n xs :=
  ⟨h.1, fun hn => by
    obtain ⟨ad, e, hb, hc⟩ := h.2 hn
    exact ⟨ad, e, hS _ hb, hc⟩⟩
theorem Rd.cut (h : Rd w S size A n xs) {k cap : Nat} (hk : k ≤ n) (hc : n ≤ cap) :
    Rd w S size (if cap = k then A else A.map (·.add (k * size))) (n - k) (xs.drop (k * size)) := by
  refine ⟨by rw [List.length_drop, h.1, Nat.sub_mul], fun hn => ?_⟩
  obtain ⟨ad, rfl, hb, hcell⟩ := h.2 (by omega)
  rw [if_neg (by omega)]
  refine ⟨ad.add (k * size), rfl, by rw [block_of_add]; exact hb, fun j u hu => ?_⟩
  rw [add_of_add]
  exact hcell _ u (by rw [← hu, List.getElem?_drop])
theorem Rd.take (h : Rd w S size A n xs) {k : Nat} (hk : k ≤ n) : Rd w S size A k (xs.take (k * size)) := by
  refine ⟨by rw [List.length_take, h.1]; exact Nat.min_eq_left (Nat.mul_le_mul_right _ hk), fun hn => ?_⟩
  obtain ⟨ad, rfl, hb, hcell⟩ := h.2 (by omega)
  refine ⟨ad, rfl, hb, fun j u hu => hcell j u ?_⟩
  rw [List.getElem?_take] at hu
  split at hu
  · exact hu
  · cases hu
theorem Rd.of_own {base : Nat} {e : TypeId} {c : Nat} (h : w.ownsRow base e size (.slice A n c) n xs) : Rd w (Rows1 (.slice A n c)) size A n xs := by
  refine ⟨h.1, fun hn => ?_⟩
  obtain ⟨g, cap, hv, _, hlt⟩ := h.form hn
  have hA : A = some ⟨g, 0, none⟩ := by injection hv
  subst hA
  exact ⟨_, rfl, rfl, h.cells (g := g) rfl⟩
end

/-- Block g is just the cells cs of element type t, none frozen. -/
def Blk (w : World) (g : Nat) (t : TypeId) (cs : Array Value) : Prop := w.heap[g]? = some (.cells cs t (0, 0))

section
variable {w w' : World} {g : Nat} {t : TypeId} {cs : Array Value} {T : Nat → Prop}
theorem Blk.lt (h : Blk w g t cs) : g < w.heap.size := by
  rcases Nat.lt_or_ge g w.heap.size with hlt | hge
  · exact hlt
  · unfold Blk at h; rw [Array.getElem?_eq_none hge] at h; cases h
theorem Blk.cell (h : Blk w g t cs) (i : Nat) : w.cell? ⟨g, i, none⟩ = cs[i]? := cell_of_row w g i cs t (0, 0) h
theorem Blk.frozen (h : Blk w g t cs) (i : Nat) : w.frozen? ⟨g, i, none⟩ = false := by
  unfold Blk at h
  simp [World.frozen?, h]
theorem Blk.new (w : World) (t : TypeId) (cs : Array Value) : Blk (w.alloc (.cells cs t)) w.heap.size t cs := heap_alloc_new w _
theorem Blk.drew (h : Blk w g t cs) : Blk w.drew g t cs := h
theorem Blk.drewN (h : Blk w g t cs) (n : Nat) : Blk (w.drewN n) g t cs := h
theorem Blk.alloc (h : Blk w g t cs) (o : Obj) : Blk (w.alloc o) g t cs := (Below.heap_alloc w o g h.lt).trans h
theorem Blk.set_ (h : Blk w g t cs) (i : Nat) (u : Value) : Blk (w.setCell ⟨g, i, none⟩ u) g t (cs.setIfInBounds i u) := by
  unfold Blk at h ⊢
  simp [World.setCell, Array.getElem?_modify, h]
theorem Blk.far (h : Blk w g t cs) {p : Addr} (hp : g ≠ p.block) (u : Value) : Blk (w.setCell p u) g t cs := (Below.heap_setCell w p u g hp).trans h
theorem Blk.fr (h : Blk w g t cs) (hf : Fr T w w') (hT : ¬ T g) : Blk w' g t cs := (hf.block g h.lt hT).trans h
theorem Blk.ne_ {g' : Nat} {t' : TypeId} {cs' : Array Value} (h : Blk w g t cs) (h' : Blk w g' t' cs') (hne : t ≠ t') : g ≠ g' := by
  rintro rfl
  unfold Blk at h h'
  rw [h] at h'
  injection h' with h'
  injection h' with _ ht
  exact hne ht
theorem own_blk_ne {base : Nat} {e : TypeId} {size n : Nat} {v : Value} {xs : List Value} (h : w.ownsRow base e size v n xs) (hg : Blk w g t cs) (hne : e ≠ t) : v.ownBlock ≠ some g := by
  rcases h.2 with ⟨rfl, _⟩ | ⟨g', cap, cur, rfl, _, hh, _⟩
  · simp [Value.ownBlock]
  · intro he
    have : g' = g := by simpa [Value.ownBlock] using he
    subst this
    exact Blk.ne_ (t := e) hh hg hne rfl
theorem own_fr {base : Nat} {e : TypeId} {size n : Nat} {v : Value} {xs : List Value} (h : w.ownsRow base e size v n xs) (hf : Fr T w w') (hT : ∀ k, v.ownBlock = some k → ¬ T k) : w'.ownsRow base e size v n xs := by
  refine ⟨h.1, ?_⟩
  rcases h.2 with hn | ⟨g, cap, cur, rfl, hb, hgg, rest⟩
  · exact .inl hn
  · exact .inr ⟨g, cap, cur, rfl, hb, (hf.block g (Array.getElem?_eq_some_iff.1 hgg).1 (hT g rfl)).trans hgg, rest⟩
end
end Go.Proofs.YtmpokappjogehaaGreatDoor

/- The built-in append onto a row of the call's own, with frames by sets of blocks: sources that are slices (nil let in), one element, strings. Plain lemmas over any program. -/
namespace Go.Proofs.YtmpokappjogehaaGreatDoor
open Go.RowKit

theorem own_shape {w : World} {base : Nat} {e : TypeId} {size n : Nat} {v : Value} {xs : List Value} (h : w.ownsRow base e size v n xs) : ∃ A c, v = .slice A n c ∧ n ≤ c := by
  rcases h.2 with ⟨rfl, rfl⟩ | ⟨g, cap, cur, rfl, _, _, hc, _⟩
  · exact ⟨none, 0, rfl, Nat.le_refl _⟩
  · exact ⟨_, cap, rfl, hc⟩

theorem own_slice {w : World} {base : Nat} {e : TypeId} {size n : Nat} {v : Value} {xs : List Value} (h : w.ownsRow base e size v n xs) : ∃ A m c, v = .slice A m c ∧ Hid (m = n) ∧ Hid (m ≤ c) := by
  obtain ⟨A, c, h1, h2⟩ := own_shape h
  exact ⟨A, n, c, h1, rfl, h2⟩

/-- v' owns xs in w', which is w but for v's own row and new blocks. -/
structure Grew (e : TypeId) (size : Nat) (w : World) (v : Value) (w' : World) (v' : Value) (n : Nat) (xs : List Value) : Prop where
  own : w'.ownsRow 0 e size v' n xs
  fr : Fr (Rows1 v) w w'
  lies : ∀ k, v'.ownBlock = some k → v.ownBlock = some k ∨ w.heap.size ≤ k

theorem Grew.start {e : TypeId} {size : Nat} {w : World} {v : Value} {n : Nat} {xs : List Value} (h : w.ownsRow 0 e size v n xs) : Grew e size w v w v n xs :=
  ⟨h, Fr.refl _ _, fun _ hk => .inl hk⟩

theorem Grew.trans {e : TypeId} {size : Nat} {w w1 w2 : World} {v v1 v2 : Value} {n m : Nat} {xs ys : List Value} (h : Grew e size w v w1 v1 n xs) (k : Grew e size w1 v1 w2 v2 m ys) : Grew e size w v w2 v2 m ys :=
  ⟨k.own, h.fr.then_ k.fr (fun i hi hr => by rcases h.lies i hr with h1 | h1; exact h1; omega),
   fun i hi => by
    rcases k.lies i hi with h1 | h1
    · exact h.lies i h1
    · exact .inr (Nat.le_trans h.fr.size h1)⟩

/-- A step ahead that turns no old block. -/
theorem Grew.ahead {e : TypeId} {size : Nat} {w w1 w2 : World} {v v2 : Value} {m : Nat} {ys : List Value} (h : Fr Nothing w w1) (k : Grew e size w1 v w2 v2 m ys) : Grew e size w v w2 v2 m ys :=
  ⟨k.own, (h.weak).trans k.fr, fun i hi => by
    rcases k.lies i hi with h1 | h1
    · exact .inl h1
    · exact .inr (Nat.le_trans h.size h1)⟩

/-- A step behind that turns no old block. -/
theorem Grew.behind {e : TypeId} {size : Nat} {w w1 w2 : World} {v v1 : Value} {m : Nat} {ys : List Value} (h : Grew e size w v w1 v1 m ys) (k : Fr Nothing w1 w2) : Grew e size w v w2 v1 m ys :=
  ⟨own_fr h.own k (fun _ _ x => x), h.fr.trans k.weak, h.lies⟩

/-- A row that began in a block of the call's own. -/
theorem Grew.fresh {e : TypeId} {size : Nat} {w w1 w2 : World} {v v2 : Value} {m : Nat} {ys : List Value} (h : Fr Nothing w w1) (hv : ∀ k, v.ownBlock = some k → w.heap.size ≤ k) (k : Grew e size w1 v w2 v2 m ys) : Grew e size w (.slice none 0 0) w2 v2 m ys :=
  ⟨k.own, (h.then_ k.fr (fun i hi hr => by have := hv i hr; omega)).weak, fun i hi => by
    rcases k.lies i hi with h1 | h1
    · exact .inr (hv i h1)
    · exact .inr (Nat.le_trans h.size h1)⟩

theorem Grew.fr0 {e : TypeId} {size : Nat} {w w2 : World} {v2 : Value} {m : Nat} {ys : List Value} (k : Grew e size w (.slice none 0 0) w2 v2 m ys) : Fr Nothing w w2 :=
  k.fr.mono (fun i _ h => by simp [Rows1, Value.ownBlock] at h)

theorem Grew.new {e : TypeId} {size : Nat} {w w2 : World} {v2 : Value} {m : Nat} {ys : List Value} (k : Grew e size w (.slice none 0 0) w2 v2 m ys) : ∀ i, v2.ownBlock = some i → w.heap.size ≤ i := fun i hi => by
  rcases k.lies i hi with h | h
  · simp [Value.ownBlock] at h
  · exact h

section
variable {P : Program} (w : World)

theorem run_append_of_nil (base : Nat) (t ty e : TypeId) (i : TypeInfo) (size : Nat) (ht : P.underlying t = some (.slice e)) (hi : P.info? e = some i)
    (v : Value) (n : Nat) (xs : List Value) (hown : w.ownsRow base e size v n xs) (c : Nat) : (Builtin.append_ #[t, t] ty #[v, .slice none 0 c]).run P w = .ok v w := by
  rcases hown.2 with ⟨rfl, rfl⟩ | ⟨g, cap, cur, rfl, _, _, hnc, _⟩
  · simp [Builtin.append_, run_underlying ht, sizeOf, typeInfo, hi, Builtin.lenOf, Builtin.firstCells]
  · simp [Builtin.append_, run_underlying ht, sizeOf, typeInfo, hi, Builtin.lenOf, Builtin.firstCells, hnc, storeCells]

theorem run_app (t ty e : TypeId) (i : TypeInfo) (z : Value) (size bytes : Nat) (ht : P.underlying t = some (.slice e)) (hi : P.info? e = some i) (hz : i.zero = some z)
    (hsize : i.size = size) (hby : i.bytes = bytes) (hzs : z.cells.size = size) (hsz : 0 < size)
    (v : Value) (n : Nat) (xs : List Value) (hown : w.ownsRow 0 e size v n xs)
    (S : Nat → Prop) (A : Option Addr) (m c : Nat) (news : List Value) (hr : Rd w S size A m news) (h1 : ∀ u ∈ news, u.oneCell' = true)
    (hbytes : (n + m) * bytes ≤ 140737488355328) (hb1 : 1 ≤ bytes) :
    ∃ v' w', (Builtin.append_ #[t, t] ty #[v, .slice A m c]).run P w = .ok v' w' ∧ Grew e size w v w' v' (n + m) (xs ++ news) := by
  have h63 : n + m ≤ maxLen := by
    have : n + m ≤ (n + m) * bytes := Nat.le_mul_of_pos_right _ hb1
    simp only [maxLen]
    omega
  rcases A with _ | ad
  · have hm : m = 0 := by
      rcases Nat.eq_zero_or_pos m with h0 | h0
      · exact h0
      · obtain ⟨ad, h, _⟩ := hr.2 h0
        cases h
    subst hm
    have hn : news = [] := List.eq_nil_of_length_eq_zero (by simpa using hr.1)
    subst hn
    exact ⟨v, w, run_append_of_nil w 0 t ty e i size ht hi v n xs hown c, by simpa using Grew.start hown⟩
  · have hcells : ∀ j u, news[j]? = some u → w.cell? (ad.add j) = some u := by
      intro j u hu
      rcases Nat.eq_zero_or_pos m with h0 | h0
      · subst h0
        have hn : news = [] := List.eq_nil_of_length_eq_zero (by simpa using hr.1)
        subst hn
        simp at hu
      · obtain ⟨ad', h, _, hc⟩ := hr.2 h0
        injection h with h
        subst h
        exact hc j u hu
    obtain ⟨v', w', hrun, h2, h3, _, h5⟩ := run_append_own_at (P := P) w 0 t ty e i z size bytes ht hi hz hsize hby hzs hsz v n xs hown ad m c news hr.1 hcells h1 h63 hbytes (Nat.zero_le _)
    refine ⟨v', w', hrun, h2, (Fr.grown h3).mono (fun k _ hk => hk.symm), fun k hk => ?_⟩
    rcases h5 with h5 | h5
    · exact .inl (h5 ▸ hk)
    · rw [h5] at hk
      exact .inr (by injection hk with hk; omega)

theorem wp_app {o : Oper} {a : Act} {K : Act → World → Prop} {Q : Exit → Act → World → Prop} (s x : Operand) (t : TypeId)
    (ho : o.op = .call { callee := .builtin .append, args := #[s, x], argTypes := #[t, t] })
    (e : TypeId) (i : TypeInfo) (z : Value) (size bytes : Nat) (ht : P.underlying t = some (.slice e)) (hi : P.info? e = some i) (hz : i.zero = some z)
    (hsize : i.size = size) (hby : i.bytes = bytes) (hzs : z.cells.size = size) (hsz : 0 < size)
    (v : Value) (n : Nat) (xs : List Value) (hs : a.eval s = v) (hown : w.ownsRow 0 e size v n xs)
    (S : Nat → Prop) (A : Option Addr) (m c : Nat) (news : List Value) (hx : a.eval x = .slice A m c) (hr : Rd w S size A m news) (h1 : ∀ u ∈ news, u.oneCell' = true)
    (hbytes : (n + m) * bytes ≤ 140737488355328) (hb1 : 1 ≤ bytes)
    (h : ∀ v' w', Grew e size w v w' v' (n + m) (xs ++ news) → K (a.put o.dst v') w') : o.wp P a w K Q := by
  obtain ⟨v', w', hrun, h2⟩ := run_app (P := P) w t o.type e i z size bytes ht hi hz hsize hby hzs hsz v n xs hown S A m c news hr h1 hbytes hb1
  unfold Oper.wp execOp
  simp only [ho, resolve, invoke, builtin, Sem.run_bind, Sem.run_pure, Result.andThen_ok, List.map_toArray, List.map_cons, List.map_nil, hs, hx, hrun]
  exact h v' w' h2

theorem wpList_app {ops : Array Oper} {rest : List Oper} {o : Oper} {a : Act} {Q : Exit → Act → World → Prop} (hgd : o.guard = none) (s x : Operand) (t : TypeId)
    (ho : o.op = .call { callee := .builtin .append, args := #[s, x], argTypes := #[t, t] })
    (e : TypeId) (i : TypeInfo) (z : Value) (size bytes : Nat) (ht : P.underlying t = some (.slice e)) (hi : P.info? e = some i) (hz : i.zero = some z)
    (hsize : i.size = size) (hby : i.bytes = bytes) (hzs : z.cells.size = size) (hsz : 0 < size)
    (v : Value) (n : Nat) (xs : List Value) (hs : a.eval s = v) (hown : w.ownsRow 0 e size v n xs)
    (S : Nat → Prop) (A : Option Addr) (m c : Nat) (news : List Value) (hx : a.eval x = .slice A m c) (hr : Rd w S size A m news) (h1 : ∀ u ∈ news, u.oneCell' = true)
    (hbytes : (n + m) * bytes ≤ 140737488355328) (hb1 : 1 ≤ bytes)
    (h : ∀ v' w', Grew e size w v w' v' (n + m) (xs ++ news) → wpList P ops Q rest (a.put o.dst v') w') : wpList P ops Q (o :: rest) a w :=
  wpList_plain hgd fun _ hK => wp_app w s x t ho e i z size bytes ht hi hz hsize hby hzs hsz v n xs hs hown S A m c news hx hr h1 hbytes hb1 fun v' w' h2 => hK _ _ (h v' w' h2)

theorem step_app {ops : Array Oper} {o : Oper} {a : Act} {K : Act → World → Prop} {Q : Exit → Act → World → Prop} {E : Prop} (hgd : o.guard = none) (s x : Operand) (t : TypeId)
    (ho : o.op = .call { callee := .builtin .append, args := #[s, x], argTypes := #[t, t] })
    (e : TypeId) (i : TypeInfo) (z : Value) (size bytes : Nat) (ht : P.underlying t = some (.slice e)) (hi : P.info? e = some i) (hz : i.zero = some z)
    (hsize : i.size = size) (hby : i.bytes = bytes) (hzs : z.cells.size = size) (hsz : 0 < size)
    (v : Value) (n : Nat) (xs : List Value) (hs : a.eval s = v) (hown : w.ownsRow 0 e size v n xs)
    (S : Nat → Prop) (A : Option Addr) (m c : Nat) (news : List Value) (hx : a.eval x = .slice A m c) (hr : Rd w S size A m news) (h1 : ∀ u ∈ news, u.oneCell' = true)
    (hbytes : (n + m) * bytes ≤ 140737488355328) (hb1 : 1 ≤ bytes)
    (h : ∀ v' w', Grew e size w v w' v' (n + m) (xs ++ news) → K (a.put o.dst v') w') :
    if Region.wanted o (yielded ops a.tmps) = true then Oper.wp P o a w K Q else E := by
  have hw : Region.wanted o (yielded ops a.tmps) = true := by simp [Region.wanted, hgd]
  rw [if_pos hw]
  exact wp_app w s x t ho e i z size bytes ht hi hz hsize hby hzs hsz v n xs hs hown S A m c news hx hr h1 hbytes hb1 h

/-- What a new block of literal cells reads as. -/
theorem rd_new (cs : Array Value) (e : TypeId) (size n : Nat) (hs : cs.size = n * size) : Rd (w.alloc (.cells cs e)) (fun k => k = w.heap.size) size (some ⟨w.heap.size, 0, none⟩) n cs.toList := by
  refine ⟨by simpa using hs, fun _ => ⟨_, rfl, rfl, fun j u hu => ?_⟩⟩
  have hb := Blk.new w e cs
  have h := hb.cell j
  rw [show (⟨w.heap.size, 0, none⟩ : Addr).add j = ⟨w.heap.size, j, none⟩ by unfold Addr.add; split <;> simp_all]
  rw [h]
  simpa using hu

/-- One element: its cells lie in a block that was just made. -/
theorem wpList_app1 {ops : Array Oper} {rest : List Oper} {o : Oper} {a : Act} {Q : Exit → Act → World → Prop} (hgd : o.guard = none) (s x : Operand) (t : TypeId)
    (ho : o.op = .call { callee := .builtin .append, args := #[s, x], argTypes := #[t, t] })
    (e : TypeId) (i : TypeInfo) (z : Value) (size bytes : Nat) (ht : P.underlying t = some (.slice e)) (hi : P.info? e = some i) (hz : i.zero = some z)
    (hsize : i.size = size) (hby : i.bytes = bytes) (hzs : z.cells.size = size) (hsz : 0 < size)
    (v : Value) (n : Nat) (xs : List Value) (hs : a.eval s = v) (hown : w.ownsRow 0 e size v n xs)
    (m : Nat) (cs : Array Value) (g : Nat) (hg : g = w.heap.size) (hx : a.eval x = .slice (some ⟨g, 0, none⟩) m m) (hcs : cs.size = m * size) (h1 : ∀ u ∈ cs.toList, u.oneCell' = true)
    (hbytes : (n + m) * bytes ≤ 140737488355328) (hb1 : 1 ≤ bytes)
    (h : ∀ v' w', Grew e size w v w' v' (n + m) (xs ++ cs.toList) → wpList P ops Q rest (a.put o.dst v') w') : wpList P ops Q (o :: rest) a (w.alloc (.cells cs e)) := by
  subst hg
  exact wpList_app _ hgd s x t ho e i z size bytes ht hi hz hsize hby hzs hsz v n xs hs (hown.alloc _) _ _ m m cs.toList hx (rd_new w cs e size m hcs) h1 hbytes hb1
    (fun v' w' hg => h v' w' (hg.ahead ((Fr.refl _ _).alloc _)))

/-- A string's bytes. -/
theorem run_app_string (t u ty e : TypeId) (i : TypeInfo) (ht : P.underlying t = some (.slice e)) (hu : P.underlying u = some .string) (hi : P.info? e = some i) (hz : i.zero = some (.int .u8 0))
    (hsize : i.size = 1) (hby : i.bytes = 1)
    (v : Value) (n : Nat) (xs : List Value) (hown : w.ownsRow 0 e 1 v n xs) (s : ByteArray) (hbytes : n + s.size ≤ 140737488355328) :
    ∃ v' w', (Builtin.append_ #[t, u] ty #[v, .string s]).run P w = .ok v' w' ∧ Grew e 1 w v w' v' (n + s.size) (xs ++ Lib.strCells s) := by
  have h63 : n + s.size ≤ maxLen := by simp only [maxLen]; omega
  obtain ⟨v', w', hr, h2, h3, h4⟩ := Lib.run_append_own_string (P := P) w 0 t u ty e i ht hu hi hz hsize hby v n xs hown s h63 hbytes (Nat.zero_le _)
  refine ⟨v', w', hr, h2, (Fr.grown h3).mono (fun k _ hk => hk.symm), ?_⟩
  have hxl : xs.length = n := by simpa using hown.1
  rcases hown.2 with ⟨rfl, rfl⟩ | ⟨g, cap, cur, rfl, hbg, hg, hnc, hcm, hcs, htake⟩
  · by_cases hm : s.size = 0
    · have : v' = .slice none 0 0 := h4.2 ⟨rfl, hm⟩
      subst this
      intro k hk
      simp [Value.ownBlock] at hk
    · have hr2 := run_append_nil_string (P := P) w t u ty e i (.int .u8 0) ht hu hi hz s (by omega) (by omega) (by rw [hby]; omega)
      rw [hr] at hr2
      injection hr2 with hr2 _
      subst hr2
      intro k hk
      simp [Value.ownBlock] at hk
      exact .inr (by omega)
  · by_cases hroom : n + s.size ≤ cap
    · have hr2 := Lib.run_append_room_string (P := P) w t u ty e i ht hu hi hsize g n cap cur hg s hroom (by rw [hcs]; omega)
      rw [hr] at hr2
      injection hr2 with hr2 _
      subst hr2
      intro k hk
      exact .inl hk
    · have holds : ∀ j u, xs[j]? = some u → w.cell? ((⟨g, 0, none⟩ : Addr).add j) = some u := hown.cells (g := g) rfl
      have hr2 := Lib.run_append_grow_string (P := P) w t u ty e i (.int .u8 0) ht hu hi hz ⟨g, 0, none⟩ n cap xs (by rw [hsize]; simpa using hxl) holds s (by omega) (by omega) (by rw [hby]; exact growslice_fits (by omega) (by omega))
      rw [hr] at hr2
      injection hr2 with hr2 _
      subst hr2
      intro k hk
      simp [Value.ownBlock] at hk
      exact .inr (by omega)

theorem wpList_app_string {ops : Array Oper} {rest : List Oper} {o : Oper} {a : Act} {Q : Exit → Act → World → Prop} (hgd : o.guard = none) (sl x : Operand) (t u : TypeId)
    (ho : o.op = .call { callee := .builtin .append, args := #[sl, x], argTypes := #[t, u] })
    (e : TypeId) (i : TypeInfo) (ht : P.underlying t = some (.slice e)) (hu : P.underlying u = some .string) (hi : P.info? e = some i) (hz : i.zero = some (.int .u8 0))
    (hsize : i.size = 1) (hby : i.bytes = 1)
    (v : Value) (n : Nat) (xs : List Value) (hs : a.eval sl = v) (hown : w.ownsRow 0 e 1 v n xs) (s : ByteArray) (hx : a.eval x = .string s)
    (hbytes : n + s.size ≤ 140737488355328)
    (h : ∀ v' w', Grew e 1 w v w' v' (n + s.size) (xs ++ Lib.strCells s) → wpList P ops Q rest (a.put o.dst v') w') : wpList P ops Q (o :: rest) a w := by
  refine wpList_plain hgd fun K hK => ?_
  obtain ⟨v', w', hr, h2⟩ := run_app_string (P := P) w t u o.type e i ht hu hi hz hsize hby v n xs hown s hbytes
  unfold Oper.wp execOp
  simp only [ho, resolve, invoke, builtin, Sem.run_bind, Sem.run_pure, Result.andThen_ok, List.map_toArray, List.map_cons, List.map_nil, hs, hx, hr]
  exact hK _ _ (h v' w' h2)
end
end Go.Proofs.YtmpokappjogehaaGreatDoor

/- A region that draws its order, walked once, in a class of worlds of one's own: the worlds that a predicate holds of. Plain lemmas over any program. -/
namespace Go.Proofs.YtmpokappjogehaaGreatDoor
open Go.RowKit

/-- A world of a class. -/
structure In (C : World → Prop) where
  w : World
  h : C w

def InC (C : World → Prop) : World → Prop := fun w' => ∃ x : In C, w' = x.w

theorem wp_region_in {P : Program} {id : Nat} {Q : Exit → Act → World → Prop} {a : Act} {w : World} {l : List Oper} (C : World → Prop) (hC : C w.drew) (hm : P.follows .mixedOrders = true) (hB : Region.lexB .any l.toArray = true)
    (h : wpQuiet P l.toArray (fun w' => ∃ x : In C, w' = x.w) (fun a' => ∀ w', (∃ x : In C, w' = x.w) → Q .normal a' w') l a) : (Code.region id l.toArray true).wp P Q a w :=
  wp_region_quiet (C := fun w' => ∃ x : In C, w' = x.w) hm hB ⟨⟨w.drew, hC⟩, rfl⟩ (by simpa using h)

/-- A call, met in a world of the class: one value, and a world of the class. -/
theorem In.call {P : Program} {f : FuncId} {args : Array Value} {C : World → Prop} {x : In C} {v : Value}
    (h : Calls P f args x.w fun e w' => e = .returned v ∧ C w') : Calls P f args x.w fun e w'' => e = .returned v ∧ ∃ y : In C, w'' = y.w :=
  h.mono fun _ w' ⟨he, hc⟩ => ⟨he, ⟨w', hc⟩, rfl⟩

/-- A call that leaves the world as it was. -/
theorem In.same {P : Program} {f : FuncId} {args : Array Value} {C : World → Prop} {x : In C} {v : Value}
    (h : Calls P f args x.w fun e w' => e = .returned v ∧ x.w = w') : Calls P f args x.w fun e w'' => e = .returned v ∧ ∃ y : In C, w'' = y.w :=
  h.mono fun _ _ ⟨he, hw⟩ => ⟨he, x, hw.symm⟩

/-- The worlds that have grown out of w0 and have turned none of its blocks. -/
abbrev Later (w0 : World) : World → Prop := fun w => Fr Nothing w0 w

instance Later.ne (w0 : World) : Nonempty (In (Later w0)) := ⟨⟨w0, Fr.refl _ _⟩⟩

theorem In.later {P : Program} {f : FuncId} {args : Array Value} {w0 : World} {x : In (Later w0)} {v : Value}
    (h : Calls P f args x.w fun e w' => e = .returned v ∧ Fr Nothing x.w w') : Calls P f args x.w fun e w'' => e = .returned v ∧ ∃ y : In (Later w0), w'' = y.w :=
  In.call (h.mono fun _ _ ⟨he, hf⟩ => ⟨he, x.h.trans hf⟩)
end Go.Proofs.YtmpokappjogehaaGreatDoor

/- Slices whose elements take several cells, opened to a list of what the elements are. Plain lemmas over any program. -/
namespace Go.Proofs.YtmpokappjogehaaGreatDoor
open Go.RowKit

abbrev Old (w : World) : Nat → Prop := fun k => k < w.heap.size

section
variable {X : Type} (cells : X → List Value) (size : Nat)

theorem flat_length (hs : ∀ x, (cells x).length = size) (l : List X) : (l.flatMap cells).length = l.length * size := by
  induction l with
  | nil => simp
  | cons x l ih => rw [List.flatMap_cons, List.length_append, ih, hs, List.length_cons, Nat.succ_mul]; omega

theorem flat_at (hs : ∀ x, (cells x).length = size) : ∀ (l : List X) (k j : Nat) (x : X), l[k]? = some x → j < size → (l.flatMap cells)[k * size + j]? = (cells x)[j]?
  | [], k, j, x, h, _ => by simp at h
  | y :: l, 0, j, x, h, hj => by
    simp at h
    subst h
    rw [List.flatMap_cons, Nat.zero_mul, Nat.zero_add, List.getElem?_append_left (by rw [hs]; exact hj)]
  | y :: l, k + 1, j, x, h, hj => by
    have e : (k + 1) * size + j = size + (k * size + j) := by rw [Nat.succ_mul]; omega
    rw [List.flatMap_cons, e, List.getElem?_append_right (by rw [hs]; omega), hs, Nat.add_sub_cancel_left]
    exact flat_at hs l k j x (by simpa using h) hj

/-- From the elements' cells to the whole slice. -/
theorem rd_of_elems {w : World} {a : Addr} {len : Nat} (Pr : X → Prop) (hs : ∀ x, (cells x).length = size) (h0 : 0 < size)
    (h : ∀ i, i < len → ∃ x : X, Pr x ∧ ∀ j u, (cells x)[j]? = some u → w.cell? ((a.add (i * size)).add j) = some u) :
    ∃ l : List X, l.length = len ∧ (∀ x ∈ l, Pr x) ∧ Rd w (Old w) size (some a) len (l.flatMap cells) := by
  have h' : ∀ i : Nat, ∃ x : Option X, i < len → ∃ y, x = some y ∧ Pr y ∧ ∀ j u, (cells y)[j]? = some u → w.cell? ((a.add (i * size)).add j) = some u := by
    intro i
    by_cases hi : i < len
    · obtain ⟨x, hx⟩ := h i hi
      exact ⟨some x, fun _ => ⟨x, rfl, hx⟩⟩
    · exact ⟨none, fun hh => absurd hh hi⟩
  obtain ⟨f, hf⟩ := Classical.axiomOfChoice h'
  have key : ∀ m, m ≤ len → ∃ l : List X, l.length = m ∧ (∀ x ∈ l, Pr x) ∧ ∀ i, i < m → l[i]? = f i := by
    intro m
    induction m with
    | zero => intro _; exact ⟨[], rfl, by simp, by omega⟩
    | succ m ih =>
      intro hm
      obtain ⟨l, h1, h2, h3⟩ := ih (by omega)
      obtain ⟨y, hy, hp, _⟩ := hf m (by omega)
      refine ⟨l ++ [y], by simp [h1], ?_, fun i hi => ?_⟩
      · intro x hx
        rcases List.mem_append.1 hx with hx | hx
        · exact h2 x hx
        · rw [List.mem_singleton.1 hx]; exact hp
      · rcases Nat.lt_or_ge i m with hlt | hge
        · rw [List.getElem?_append_left (by omega)]; exact h3 i hlt
        · obtain rfl : i = m := by omega
          rw [List.getElem?_append_right (by omega), h1, hy]
          simp
  obtain ⟨l, h1, h2, h3⟩ := key len (Nat.le_refl _)
  have hcell : ∀ j u, (l.flatMap cells)[j]? = some u → w.cell? (a.add j) = some u := by
    intro j u hu
    have hjl : j < len * size := by
      have := (List.getElem?_eq_some_iff.1 hu).1
      rw [flat_length cells size hs, h1] at this
      exact this
    have hk : j / size < len := Nat.div_lt_of_lt_mul (by rw [Nat.mul_comm]; exact hjl)
    have hr : j % size < size := Nat.mod_lt _ h0
    have hj : j / size * size + j % size = j := by rw [Nat.mul_comm]; exact Nat.div_add_mod j size
    obtain ⟨y, hy, _, hc⟩ := hf (j / size) hk
    have hly : l[j / size]? = some y := (h3 _ hk).trans hy
    rw [← hj, flat_at cells size hs l _ _ y hly hr] at hu
    have := hc _ u hu
    rw [add_of_add, hj] at this
    exact this
  refine ⟨l, h1, h2, by rw [flat_length cells size hs, h1], fun hn => ⟨a, rfl, ?_, hcell⟩⟩
  obtain ⟨y, hy, _, hc⟩ := hf 0 hn
  have hne : 0 < (cells y).length := by rw [hs]; exact h0
  have := World.block_lt_of_cell? w _ (hc 0 _ (List.getElem?_eq_getElem hne))
  rw [block_of_add, block_of_add] at this
  exact this
end
end Go.Proofs.YtmpokappjogehaaGreatDoor

/- SHA-256 in plain Lean, over natural numbers below 2^32. No program in sight. -/
namespace Go.Proofs.YtmpokappjogehaaGreatDoor

/-- A word rotated to the right by n bits. -/
def rotr (n x : Nat) : Nat := (x / 2 ^ n) ||| (x * 2 ^ (32 - n) % 4294967296)
def add32 (a b : Nat) : Nat := (a + b) % 4294967296
def xor32 (a b : Nat) : Nat := a ^^^ b
def and32 (a b : Nat) : Nat := a &&& b
def not32 (a : Nat) : Nat := 4294967295 - a

theorem or_lt32 {a b : Nat} (ha : a < 4294967296) (hb : b < 4294967296) : a ||| b < 4294967296 := Nat.or_lt_two_pow (n := 32) (by omega) (by omega)
theorem xor_lt32 {a b : Nat} (ha : a < 4294967296) (hb : b < 4294967296) : xor32 a b < 4294967296 := Nat.xor_lt_two_pow (n := 32) (by omega) (by omega)
theorem and_lt32 {a b : Nat} (ha : a < 4294967296) : and32 a b < 4294967296 := Nat.lt_of_le_of_lt Nat.and_le_left ha
theorem add_lt32 (a b : Nat) : add32 a b < 4294967296 := Nat.mod_lt _ (by omega)
theorem not_lt32 (a : Nat) : not32 a < 4294967296 := by unfold not32; omega
theorem rotr_lt (n x : Nat) (hx : x < 4294967296) : rotr n x < 4294967296 :=
  or_lt32 (Nat.lt_of_le_of_lt (Nat.div_le_self _ _) hx) (Nat.mod_lt _ (by omega))

theorem not_xor32 (a : Nat) (ha : a < 4294967296) : 4294967295 ^^^ a = not32 a := by
  have h1 : (BitVec.allOnes 32 ^^^ BitVec.ofNat 32 a).toNat = (~~~ (BitVec.ofNat 32 a)).toNat := by rw [BitVec.allOnes_xor]
  rw [BitVec.toNat_not, BitVec.toNat_xor, BitVec.toNat_allOnes, BitVec.toNat_ofNat, Nat.mod_eq_of_lt (by simpa using ha)] at h1
  simpa [not32] using h1

/-- The word of four bytes. -/
def word4 (a b c d : Nat) : Nat := a * 16777216 + b * 65536 + c * 256 + d

def sig0 (x : Nat) : Nat := xor32 (xor32 (rotr 7 x) (rotr 18 x)) (x / 8)
def sig1 (x : Nat) : Nat := xor32 (xor32 (rotr 17 x) (rotr 19 x)) (x / 1024)

def wAt (b : List UInt8) (t : Nat) : Nat := word4 ((b[4 * t]?.getD 0).toNat) ((b[4 * t + 1]?.getD 0).toNat) ((b[4 * t + 2]?.getD 0).toNat) ((b[4 * t + 3]?.getD 0).toNat)
/-- The schedule as a list that grows. -/
def schedL (b : List UInt8) : Nat → List Nat
  | 0 => []
  | t + 1 => schedL b t ++ [if t < 16 then wAt b t else
      add32 (add32 (add32 ((schedL b t)[t - 16]?.getD 0) (sig0 ((schedL b t)[t - 15]?.getD 0))) ((schedL b t)[t - 7]?.getD 0)) (sig1 ((schedL b t)[t - 2]?.getD 0))]

structure St8 where
  a : Nat
  b : Nat
  c : Nat
  d : Nat
  e : Nat
  f : Nat
  g : Nat
  h : Nat

structure St8.ok (s : St8) : Prop where
  a : s.a < 4294967296
  b : s.b < 4294967296
  c : s.c < 4294967296
  d : s.d < 4294967296
  e : s.e < 4294967296
  f : s.f < 4294967296
  g : s.g < 4294967296
  h : s.h < 4294967296

def roundP (s : St8) (k w : Nat) : Nat := add32 (add32 (add32 (add32 s.h (xor32 (xor32 (rotr 6 s.e) (rotr 11 s.e)) (rotr 25 s.e))) (xor32 (and32 s.e s.f) (and32 (not32 s.e) s.g))) k) w
def roundQ (s : St8) : Nat := add32 (xor32 (xor32 (rotr 2 s.a) (rotr 13 s.a)) (rotr 22 s.a)) (xor32 (xor32 (and32 s.a s.b) (and32 s.a s.c)) (and32 s.b s.c))
def round (s : St8) (k w : Nat) : St8 := ⟨add32 (roundP s k w) (roundQ s), s.a, s.b, s.c, add32 s.d (roundP s k w), s.e, s.f, s.g⟩

def kTab : List Nat := [1116352408, 1899447441, 3049323471, 3921009573, 961987163, 1508970993, 2453635748, 2870763221, 3624381080, 310598401, 607225278, 1426881987, 1925078388, 2162078206, 2614888103, 3248222580, 3835390401, 4022224774, 264347078, 604807628, 770255983, 1249150122, 1555081692, 1996064986, 2554220882, 2821834349, 2952996808, 3210313671, 3336571891, 3584528711, 113926993, 338241895, 666307205, 773529912, 1294757372, 1396182291, 1695183700, 1986661051, 2177026350, 2456956037, 2730485921, 2820302411, 3259730800, 3345764771, 3516065817, 3600352804, 4094571909, 275423344, 430227734, 506948616, 659060556, 883997877, 958139571, 1322822218, 1537002063, 1747873779, 1955562222, 2024104815, 2227730452, 2361852424, 2428436474, 2756734187, 3204031479, 3329325298]
def initS : St8 := ⟨1779033703, 3144134277, 1013904242, 2773480762, 1359893119, 2600822924, 528734635, 1541459225⟩

def rounds (w : List Nat) (s : St8) : Nat → St8
  | 0 => s
  | t + 1 => round (rounds w s t) (kTab[t]?.getD 0) (w[t]?.getD 0)
def addS (s v : St8) : St8 := ⟨add32 s.a v.a, add32 s.b v.b, add32 s.c v.c, add32 s.d v.d, add32 s.e v.e, add32 s.f v.f, add32 s.g v.g, add32 s.h v.h⟩
/-- The state after a block. -/
def blockS (s : St8) (b : List UInt8) : St8 := addS s (rounds (schedL b 64) s 64)

theorem St8.okRound (s : St8) (k w : Nat) (h : s.ok) : (round s k w).ok :=
  ⟨add_lt32 _ _, h.a, h.b, h.c, add_lt32 _ _, h.e, h.f, h.g⟩
theorem rounds_ok (w : List Nat) (s : St8) (h : s.ok) : ∀ t, (rounds w s t).ok
  | 0 => h
  | t + 1 => St8.okRound _ _ _ (rounds_ok w s h t)
theorem addS_ok (s v : St8) : (addS s v).ok := ⟨add_lt32 _ _, add_lt32 _ _, add_lt32 _ _, add_lt32 _ _, add_lt32 _ _, add_lt32 _ _, add_lt32 _ _, add_lt32 _ _⟩

theorem wAt_lt (b : List UInt8) (t : Nat) : wAt b t < 4294967296 := by
  unfold wAt word4
  have h1 := (b[4 * t]?.getD 0).toNat_lt
  have h2 := (b[4 * t + 1]?.getD 0).toNat_lt
  have h3 := (b[4 * t + 2]?.getD 0).toNat_lt
  have h4 := (b[4 * t + 3]?.getD 0).toNat_lt
  omega

theorem schedL_length (b : List UInt8) : ∀ t, (schedL b t).length = t
  | 0 => rfl
  | t + 1 => by simp [schedL, schedL_length b t]
theorem schedL_lt (b : List UInt8) : ∀ t, ∀ x ∈ schedL b t, x < 4294967296
  | 0 => by simp [schedL]
  | t + 1 => by
    intro x hx
    simp only [schedL, List.mem_append, List.mem_singleton] at hx
    rcases hx with hx | hx
    · exact schedL_lt b t x hx
    · rw [hx]
      split
      · exact wAt_lt b t
      · exact add_lt32 _ _
end Go.Proofs.YtmpokappjogehaaGreatDoor

/- SHA-256 of a text, in plain Lean: blocks one after the other, the padded text, the digest; joined texts. -/
namespace Go.Proofs.YtmpokappjogehaaGreatDoor

def oct (n : Nat) : UInt8 := UInt8.ofNat n

/-- The state after the first k blocks of a text. -/
def runB (s : St8) (l : List UInt8) : Nat → St8
  | 0 => s
  | k + 1 => blockS (runB s l k) ((l.drop (64 * k)).take 64)

/-- The eight bytes of the length in bits of a text of n bytes. -/
def len8 (n : Nat) : List UInt8 := [oct (8 * n / 72057594037927936), oct (8 * n / 281474976710656), oct (8 * n / 1099511627776), oct (8 * n / 4294967296), oct (8 * n / 16777216), oct (8 * n / 65536), oct (8 * n / 256), oct (8 * n)]
def padL (l : List UInt8) : List UInt8 := l ++ 128 :: (List.replicate ((119 - l.length % 64) % 64) 0 ++ len8 l.length)
/-- The four bytes of a word. -/
def wBytes (x : Nat) : List UInt8 := [oct (x / 16777216), oct (x / 65536), oct (x / 256), oct x]
def digestS (s : St8) : List UInt8 := wBytes s.a ++ wBytes s.b ++ wBytes s.c ++ wBytes s.d ++ wBytes s.e ++ wBytes s.f ++ wBytes s.g ++ wBytes s.h
/-- The digest of a text. -/
def shaL (l : List UInt8) : List UInt8 := digestS (runB initS (padL l) ((padL l).length / 64))
/-- The text that stands for a tag and a list of texts. -/
def joinL (tag : UInt8) (ps : List (List UInt8)) : List UInt8 := tag :: oct ps.length :: ps.flatMap fun p => wBytes p.length ++ p

theorem digestS_length (s : St8) : (digestS s).length = 32 := rfl
theorem shaL_length (l : List UInt8) : (shaL l).length = 32 := rfl
theorem len8_length (n : Nat) : (len8 n).length = 8 := rfl
theorem padL_length (l : List UInt8) : (padL l).length = l.length + 9 + (119 - l.length % 64) % 64 := by
  simp only [padL, List.length_append, List.length_cons, List.length_replicate, len8_length]
  omega
theorem padL_mod (l : List UInt8) : (padL l).length % 64 = 0 := by rw [padL_length]; omega

theorem runB_ok (s : St8) (l : List UInt8) (h : s.ok) : ∀ k, (runB s l k).ok
  | 0 => h
  | _ + 1 => addS_ok _ _
theorem initS_ok : initS.ok := by constructor <;> decide
theorem runB_append (s : St8) (l r : List UInt8) : ∀ k, 64 * k ≤ l.length → runB s (l ++ r) k = runB s l k
  | 0, _ => rfl
  | k + 1, hk => by
    rw [runB, runB, runB_append s l r k (by omega)]
    congr 1
    rw [List.drop_append_of_le_length (by omega), List.take_append_of_le_length (by rw [List.length_drop]; omega)]
/-- One further block behind whole ones. -/
theorem runB_snoc (s : St8) (l b : List UInt8) (k : Nat) (hl : l.length = 64 * k) (hb : b.length = 64) (r : List UInt8) : runB s (l ++ (b ++ r)) (k + 1) = blockS (runB s l k) b := by
  rw [runB, runB_append s l _ k (by omega), ← hl, List.drop_left, ← hb, List.take_left]

/-- Behind the padded text: one block, or two. -/
theorem sha_short (m t : List UInt8) (q : Nat) (hm : m.length = 64 * q) (ht : t.length < 56) :
    shaL (m ++ t) = digestS (blockS (runB initS m q) (t ++ 128 :: (List.replicate (55 - t.length) 0 ++ len8 (64 * q + t.length)))) := by
  unfold shaL
  have hl : (m ++ t).length = 64 * q + t.length := by rw [List.length_append, hm]
  have hn : (padL (m ++ t)).length = 64 * (q + 1) := by rw [padL_length, hl]; omega
  rw [hn, Nat.mul_div_cancel_left _ (by omega : 0 < 64)]
  congr 1
  unfold padL
  rw [hl, show (119 - (64 * q + t.length) % 64) % 64 = 55 - t.length by omega, List.append_assoc]
  have := runB_snoc initS m (t ++ 128 :: (List.replicate (55 - t.length) 0 ++ len8 (64 * q + t.length))) q hm (by simp [len8_length]; omega) []
  rw [List.append_nil] at this
  exact this
theorem sha_long (m t : List UInt8) (q : Nat) (hm : m.length = 64 * q) (ht : 56 ≤ t.length) (ht2 : t.length < 64) :
    shaL (m ++ t) = digestS (blockS (blockS (runB initS m q) (t ++ 128 :: List.replicate (63 - t.length) 0)) (List.replicate 56 0 ++ len8 (64 * q + t.length))) := by
  unfold shaL
  have hl : (m ++ t).length = 64 * q + t.length := by rw [List.length_append, hm]
  have hn : (padL (m ++ t)).length = 64 * (q + 2) := by rw [padL_length, hl]; omega
  rw [hn, Nat.mul_div_cancel_left _ (by omega : 0 < 64)]
  congr 1
  unfold padL
  have hz : List.replicate (119 - t.length) (0 : UInt8) = List.replicate (63 - t.length) 0 ++ List.replicate 56 0 := by
    rw [List.replicate_append_replicate]; congr 1; omega
  rw [hl, show (119 - (64 * q + t.length) % 64) % 64 = 119 - t.length by omega, hz]
  have e : m ++ t ++ 128 :: (List.replicate (63 - t.length) 0 ++ List.replicate 56 0 ++ len8 (64 * q + t.length)) = (m ++ (t ++ 128 :: List.replicate (63 - t.length) 0)) ++ ((List.replicate 56 0 ++ len8 (64 * q + t.length)) ++ []) := by simp
  rw [e, runB_snoc initS _ _ (q + 1) (by simp [hm]; omega) (by simp [len8_length])]
  have := runB_snoc initS m (t ++ 128 :: List.replicate (63 - t.length) 0) q hm (by simp; omega) []
  rw [List.append_nil] at this
  rw [this]
end Go.Proofs.YtmpokappjogehaaGreatDoor

/- A text that is hashed piece by piece: plain. -/
namespace Go.Proofs.YtmpokappjogehaaGreatDoor

/-- The bytes behind the whole blocks of M lie at the beginning of rest. -/
def HashOk (M rest : List UInt8) : Prop := rest.length = 64 ∧ rest.take (M.length % 64) = M.drop (64 * (M.length / 64))
def laidOver (rest : List UInt8) (a : Nat) (X : List UInt8) : List UInt8 := rest.take a ++ X ++ rest.drop (a + X.length)

theorem laidOver_length {rest : List UInt8} {a : Nat} {X : List UInt8} (h : rest.length = 64) (hx : a + X.length ≤ 64) : (laidOver rest a X).length = 64 := by
  simp [laidOver]; omega

theorem hash_more {M rest X : List UInt8} (h : HashOk M rest) (hx : M.length % 64 + X.length < 64) :
    HashOk (M ++ X) (laidOver rest (M.length % 64) X) ∧ runB initS (M ++ X) ((M ++ X).length / 64) = runB initS M (M.length / 64) := by
  have hl : (M ++ X).length = M.length + X.length := List.length_append
  have hd : (M ++ X).length / 64 = M.length / 64 := by rw [hl]; omega
  have hm : (M ++ X).length % 64 = M.length % 64 + X.length := by rw [hl]; omega
  refine ⟨⟨laidOver_length h.1 (by omega), ?_⟩, ?_⟩
  · rw [hm, hd, List.drop_append_of_le_length (by omega), ← h.2, laidOver]
    rw [List.take_left' (by have := h.1; simp; omega)]
  · rw [hd]
    exact runB_append initS M X _ (by omega)

theorem hash_full {M rest X : List UInt8} (h : HashOk M rest) (hx : M.length % 64 + X.length = 64) :
    HashOk (M ++ X) (laidOver rest (M.length % 64) X) ∧ runB initS (M ++ X) ((M ++ X).length / 64) = blockS (runB initS M (M.length / 64)) (laidOver rest (M.length % 64) X) := by
  have hl : (M ++ X).length = M.length + X.length := List.length_append
  have hd : (M ++ X).length / 64 = M.length / 64 + 1 := by rw [hl]; omega
  have hm : (M ++ X).length % 64 = 0 := by rw [hl]; omega
  refine ⟨⟨laidOver_length h.1 (by omega), ?_⟩, ?_⟩
  · rw [hm, hd, List.take_zero, List.drop_of_length_le (by rw [hl]; omega)]
  · rw [hd, runB, runB_append initS M X _ (by omega), List.drop_append_of_le_length (by omega), ← h.2]
    congr 1
    rw [laidOver, List.drop_of_length_le (by have := h.1; omega), List.append_nil]
    exact List.take_of_length_le (by have := h.1; simp; omega)

theorem hash_nil (rest : List UInt8) (h : rest.length = 64) : HashOk [] rest := ⟨h, rfl⟩
theorem hash_ok (M rest : List UInt8) (h : HashOk M rest) : M = M.take (64 * (M.length / 64)) ++ rest.take (M.length % 64) := by
  rw [h.2, List.take_append_drop]
end Go.Proofs.YtmpokappjogehaaGreatDoor

/- Two digests that differ: reckoned by the kernel. -/
namespace Go.Proofs.YtmpokappjogehaaGreatDoor

set_option maxRecDepth 1000000 in
theorem leaf_ab : (shaL (joinL 0 [[97]])).head? ≠ (shaL (joinL 0 [[98]])).head? := by decide +kernel
end Go.Proofs.YtmpokappjogehaaGreatDoor

/- Rotations: sha256.right and the reference's turn. -/
namespace Go.Proofs.YtmpokappjogehaaGreatDoor
open Go.RowKit

theorem ret_int {k : IntKind} {a b : Int} (h : a = b) : Ending.returned (.int k a) = .returned (.int k b) := by rw [h]

theorem rotr_or (n x : Nat) (hx : x < 4294967296) : bits .or .u32 ((x : Int) / 2 ^ n) ((x : Int) * 2 ^ (32 - n) % 4294967296) = ((rotr n x : Nat) : Int) := by
  have e1 : (x : Int) / 2 ^ n = ((x / 2 ^ n : Nat) : Int) := by
    rw [Int.natCast_ediv]
    simp
  have e2 : (x : Int) * 2 ^ (32 - n) % 4294967296 = ((x * 2 ^ (32 - n) % 4294967296 : Nat) : Int) := by
    rw [Int.natCast_emod]
    simp
  rw [e1, e2, u32_or_nat _ _ (Nat.lt_of_le_of_lt (Nat.div_le_self _ _) hx) (Nat.mod_lt _ (by omega))]
  rfl

theorem rotr_or' (n m x : Nat) (hm : m + n = 32) (hx : x < 4294967296) : bits .or .u32 ((x : Int) * 2 ^ m % 4294967296) ((x : Int) / 2 ^ (32 - m)) = ((rotr n x : Nat) : Int) := by
  obtain rfl : n = 32 - m := by omega
  have e1 : (x : Int) / 2 ^ (32 - m) = ((x / 2 ^ (32 - m) : Nat) : Int) := by
    rw [Int.natCast_ediv]
    simp
  have e2 : (x : Int) * 2 ^ m % 4294967296 = ((x * 2 ^ m % 4294967296 : Nat) : Int) := by
    rw [Int.natCast_emod]
    simp
  rw [e1, e2, u32_or_nat _ _ (Nat.mod_lt _ (by omega)) (Nat.lt_of_le_of_lt (Nat.div_le_self _ _) hx), Nat.or_comm]
  unfold rotr
  rw [show 32 - (32 - m) = m by omega]

theorem neg_and31 (n : Nat) (h1 : 1 ≤ n) (h2 : n ≤ 31) : bits .and .u64 (IntKind.u64.wrap (-(n : Int))) 31 = ((32 - n : Nat) : Int) := by
  have e : IntKind.u64.wrap (-(n : Int)) = ((18446744073709551616 - n : Nat) : Int) := by
    simp only [IntKind.wrap, IntKind.bits, IntKind.signed]
    simp
    omega
  rw [e]
  have := u64_and_nat (18446744073709551616 - n) 31 (by omega) (by omega)
  rw [nat_mask5] at this
  refine this.trans ?_
  congr 1
  omega

end Go.Proofs.YtmpokappjogehaaGreatDoor

/- Cells of a row, many at once: copy from a string, clear. -/
namespace Go.Proofs.YtmpokappjogehaaGreatDoor
open Go.RowKit

theorem Blk.setCells {g : Nat} {t : TypeId} : ∀ (vs : List Value) (o : Nat) (w : World) (cs : List Value), Blk w g t cs.toArray → o + vs.length ≤ cs.length →
    Blk (w.setCells g o vs) g t (cs.take o ++ vs ++ cs.drop (o + vs.length)).toArray
  | [], o, w, cs, h, _ => by simpa [World.setCells] using h
  | v :: r, o, w, cs, h, hl => by
    have h1 := h.set_ o v
    rw [List.setIfInBounds_toArray] at h1
    simp only [List.length_cons] at hl
    have h2 := Blk.setCells r (o + 1) _ (cs.set o v) h1 (by rw [List.length_set]; omega)
    refine (congrArg (Blk _ g t) ?_).mp h2
    congr 1
    have e1 : (cs.set o v).take (o + 1) = cs.take o ++ [v] := by
      rw [List.take_set, List.take_succ_eq_append_getElem (by omega : o < cs.length), List.set_append_right _ _ (by simp; omega)]
      simp
      rw [show o - min o cs.length = 0 by omega]
      rfl
    have e2 : (cs.set o v).drop (o + 1 + r.length) = cs.drop (o + (v :: r).length) := by
      rw [List.drop_set_of_lt (by omega)]
      congr 1
      simp only [List.length_cons]; omega
    rw [e1, e2]
    simp

theorem Fr.setCells {T : Nat → Prop} {g : Nat} {a : World} (hg : g < a.heap.size → T g) : ∀ (vs : List Value) (o : Nat) (w : World), Fr T a w → Fr T a (w.setCells g o vs)
  | [], _, _, h => h
  | v :: r, o, _, h => Fr.setCells hg r (o + 1) _ (h.setCell (p := ⟨g, o, none⟩) hg v)

/-- 'copy(dst, s)', s a string of any length. -/
theorem run_copy_str {P : Program} (w : World) (dT sT ty elem : TypeId) (b o dLen dCap : Nat) (t : ByteArray)
    (hu : P.underlying dT = some (.slice elem)) (hz : ∀ w, (Go.sizeOf elem).run P w = .ok 1 w) (n : Nat) (hn : Nat.min t.size dLen = n)
    (hc : ∀ j, j < n → (w.cell? ⟨b, o + j, none⟩).isSome = true) (hf : ∀ j, j < n → w.frozen? ⟨b, o + j, none⟩ = false) :
    (Builtin.copy_ #[dT, sT] ty #[.slice (some ⟨b, o, none⟩) dLen dCap, .string t]).run P w = .ok (goInt n) (w.setCells b o ((t.data.toList.map fun x => Value.int .u8 (x.toNat : Int)).take n)) := by
  have hl : ((t.data.toList.map fun x => Value.int .u8 (x.toNat : Int)).take n).length = n := by
    rw [List.length_take, List.length_map, ← Lib.size_eq]
    have : Nat.min t.size dLen ≤ t.size := Nat.min_le_left _ _
    omega
  have hst := run_storeCells_cells (P := P) b o ((t.data.toList.map fun x => Value.int .u8 (x.toNat : Int)).take n) 0 w (by rw [hl]; simpa using hc) (by rw [hl]; simpa using hf) (by
    intro v hv
    obtain ⟨x, _, rfl⟩ := List.mem_map.1 (List.mem_of_mem_take hv)
    rfl)
  simp [Builtin.copy_, run_underlying hu, Builtin.lenOf, Builtin.firstCells, hz, hn]
  rw [hst]
  rfl
def u32v (n : Nat) : Value := .int .u32 (n : Int)
def Same' (w : World) (v : Value) (e : Ending) (w' : World) : Prop := e = .returned v ∧ Fr Nothing w w'

theorem heap_setRow_same {w : World} {g : Nat} {t : TypeId} {old cs : Array Value} (h : Blk w g t old) : Blk (w.setRow g cs) g t cs := by
  unfold Blk at h ⊢
  simp [World.setRow, Array.getElem?_modify, h]

theorem wpList_buildTo {P : Program} {ops : Array Oper} {rest : List Oper} {o : Oper} {a : Act} {w : World} {Q : Exit → Act → World → Prop} (hg : o.guard = none) (t : TypeId) (parts : Array (Nat × Operand)) (ho : o.op = .build t parts) (cells : Array Value)
    (hf : P.built t (parts.map fun (i, x) => (i, a.eval x)).toList = some cells) (h : wpList P ops Q rest (a.put o.dst (.agg cells)) w) : wpList P ops Q (o :: rest) a w :=
  wpList_build hg t parts ho (by rw [hf]; rfl) (by rw [hf]; exact h)
theorem Fr.setRow {T : Nat → Prop} {a w : World} (h : Fr T a w) {g : Nat} (hg : g < a.heap.size → T g) (cs : Array Value) : Fr T a (w.setRow g cs) := by
  refine h.then_ (T' := fun k => k = g) ⟨rfl, rfl, rfl, by simp [World.setRow], fun k _ ht => ?_⟩ (fun i hi e => by subst e; exact hg hi)
  simp [World.setRow, Array.getElem?_modify, Ne.symm ht]
def stV (s : St8) : List Value := [u32v s.a, u32v s.b, u32v s.c, u32v s.d, u32v s.e, u32v s.f, u32v s.g, u32v s.h]
def bvI (x : UInt8) : Value := .int .u8 (x.toNat : Int)
end Go.Proofs.YtmpokappjogehaaGreatDoor

/- The reference's K. -/
namespace Go.Proofs.YtmpokappjogehaaGreatDoor
open Go.RowKit
end Go.Proofs.YtmpokappjogehaaGreatDoor

/- Laws of operations that make a new block, the world behind them under a name of its own. -/
namespace Go.Proofs.YtmpokappjogehaaGreatDoor
open Go.RowKit

structure NewBlk (w w' : World) (t : TypeId) (cells : Array Value) : Prop where
  blk : Blk w' w.heap.size t cells
  fr : Fr Nothing w w'
  size : w'.heap.size = w.heap.size + 1
theorem NewBlk.alloc (w : World) (t : TypeId) (cells : Array Value) : NewBlk w (w.alloc (.cells cells t)) t cells := ⟨Blk.new w t cells, (Fr.refl _ _).alloc _, by simp⟩

theorem wpList_boxBlk {P : Program} {ops : Array Oper} {rest : List Oper} {o : Oper} {a : Act} {w : World} {Q : Exit → Act → World → Prop} (hg : o.guard = none) (t : TypeId) (x : Operand) (ho : o.op = .box t x) (cells : Array Value) (hx : (a.eval x).cells = cells)
    (h : ∀ w', NewBlk w w' t cells → wpList P ops Q rest (a.put o.dst (.pointer (some ⟨w.heap.size, 0, none⟩))) w') : wpList P ops Q (o :: rest) a w :=
  Great.wpList_boxTo hg t x ho _ rfl _ rfl cells hx (h _ (NewBlk.alloc w t cells))

theorem wpList_allocBlk {P : Program} {ops : Array Oper} {rest : List Oper} {o : Oper} {a : Act} {w : World} {Q : Exit → Act → World → Prop} (hg : o.guard = none) (t : TypeId) (ho : o.op = .alloc t) (z : Value) (hz : ∀ w, (zeroValue t).run P w = .ok z w) (cells : Array Value) (hc : z.cells = cells)
    (h : ∀ w', NewBlk w w' t cells → wpList P ops Q rest (a.put o.dst (.pointer (some ⟨w.heap.size, 0, none⟩))) w') : wpList P ops Q (o :: rest) a w := by
  subst hc
  refine wpList_plain hg fun K hK => ?_
  unfold Oper.wp execOp
  simp only [ho, Instr.alloc, Sem.run_bind, hz, newVar, newRow, run_newObj_alloc, Sem.run_pure, Result.andThen_ok]
  exact hK _ _ (h _ (NewBlk.alloc w t z.cells))

theorem wpList_storeBlk {P : Program} {ops : Array Oper} {rest : List Oper} {o : Oper} {a : Act} {w : World} {Q : Exit → Act → World → Prop} (hgd : o.guard = none) (ty : TypeId) (x y : Operand) (ho : o.op = .store ty x y)
    (g : Nat) (cells : Array Value) (hx : a.eval x = .pointer (some ⟨g, 0, none⟩)) (hy : a.eval y = .agg cells)
    (t : TypeId) (old : Array Value) (hg : Blk w g t old) (hi : (P.info? ty).map (·.size) = some cells.size)
    (hold : old.size = cells.size) (h1 : cells.all (·.oneCell') = true)
    (h : ∀ w', Blk w' g t cells → Fr (fun k => k = g) w w' → wpList P ops Q rest (a.put o.dst undef) w') : wpList P ops Q (o :: rest) a w :=
  wpList_store_row hgd ty x y ho g cells hx hy t old hg hi hold h1 (h _ (heap_setRow_same hg) ((Fr.refl (fun k => k = g) w).setRow (fun _ => rfl) cells))
end Go.Proofs.YtmpokappjogehaaGreatDoor

/- Words, sums and the schedule's block: shared by the program's compress and the reference's schedule. -/
namespace Go.Proofs.YtmpokappjogehaaGreatDoor
open Go.RowKit

theorem wrap_add32 (a b : Nat) : IntKind.u32.wrap ((a : Int) + (b : Int)) = ((add32 a b : Nat) : Int) := by
  rw [IntKind.wrap_u32]
  unfold add32
  omega
theorem sched_lt (b : List UInt8) (k i : Nat) (x : Nat) (hx : x = (schedL b k)[i]?.getD 0) : x < 4294967296 := by
  rcases h : (schedL b k)[i]? with _ | y
  · rw [hx, h]; simp
  · rw [hx, h]; exact schedL_lt b k y (List.mem_of_getElem? h)
theorem sig0_steps (x : Nat) (hx : x < 4294967296) : ∃ a : Nat, bits .xor .u32 ((rotr 7 x : Nat) : Int) ((rotr 18 x : Nat) : Int) = (a : Int) ∧ bits .xor .u32 (a : Int) ((x : Int) / 8) = ((sig0 x : Nat) : Int) := by
  refine ⟨xor32 (rotr 7 x) (rotr 18 x), u32_xor_nat _ _ (rotr_lt 7 x hx) (rotr_lt 18 x hx), ?_⟩
  rw [show (x : Int) / 8 = ((x / 8 : Nat) : Int) by omega, u32_xor_nat _ _ (xor_lt32 (rotr_lt 7 x hx) (rotr_lt 18 x hx)) (by omega)]
  rfl
theorem sig1_steps (x : Nat) (hx : x < 4294967296) : ∃ a : Nat, bits .xor .u32 ((rotr 17 x : Nat) : Int) ((rotr 19 x : Nat) : Int) = (a : Int) ∧ bits .xor .u32 (a : Int) ((x : Int) / 1024) = ((sig1 x : Nat) : Int) := by
  refine ⟨xor32 (rotr 17 x) (rotr 19 x), u32_xor_nat _ _ (rotr_lt 17 x hx) (rotr_lt 19 x hx), ?_⟩
  rw [show (x : Int) / 1024 = ((x / 1024 : Nat) : Int) by omega, u32_xor_nat _ _ (xor_lt32 (rotr_lt 17 x hx) (rotr_lt 19 x hx)) (by omega)]
  rfl

theorem word_sums (x0 x1 x2 x3 : Nat) (h0 : x0 < 256) (h1 : x1 < 256) (h2 : x2 < 256) (h3 : x3 < 256) :
    ∃ p0 p1 p2 s1 s2 : Nat, IntKind.u32.wrap ((x0 : Int) * 16777216) = (p0 : Int) ∧ IntKind.u32.wrap ((x1 : Int) * 65536) = (p1 : Int) ∧ IntKind.u32.wrap ((x2 : Int) * 256) = (p2 : Int) ∧
      IntKind.u32.wrap ((p0 : Int) + (p1 : Int)) = (s1 : Int) ∧ IntKind.u32.wrap ((s1 : Int) + (p2 : Int)) = (s2 : Int) ∧ IntKind.u32.wrap ((s2 : Int) + (x3 : Int)) = ((word4 x0 x1 x2 x3 : Nat) : Int) := by
  unfold word4
  refine ⟨x0 * 16777216, x1 * 65536, x2 * 256, x0 * 16777216 + x1 * 65536, x0 * 16777216 + x1 * 65536 + x2 * 256, ?_, ?_, ?_, ?_, ?_, ?_⟩
  all_goals
    refine (IntWalk.u32_in _ (by omega)).trans ?_
    omega
end Go.Proofs.YtmpokappjogehaaGreatDoor
