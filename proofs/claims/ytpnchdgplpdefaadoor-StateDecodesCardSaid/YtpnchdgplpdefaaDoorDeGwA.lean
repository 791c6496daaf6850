/- Several texts in one. -/
import Derived.WalkKit
import Derived.WalkSpells
import Derived.WalkLawsBesides
import Derived.Lib.Hide
import Derived.Laws.OwnMore
import Derived.Deep.AppendLies
import Derived.Deep.Draws
import Derived.Laws.Rows
import Derived.Maps.AppendAt
import Derived.RegionTactic
import Derived.OwnWalk
import Derived.Lib.AppendStr
import Derived.Deep.QuietTactic
import Derived.BigQuiet
import Derived.Deep.Slices
import Derived.Deep.Fields
import Derived.OpenShut
import Derived.Test.YtpnchdgplpdefaaDoorProg
import Derived.Lib.LazyBuf
import Derived.Lib.SliceRun
import Derived.Lib.ReflectliteSwap
import Derived.Laws.Tables
import Derived.Deep.DeepCutAuto
import Derived.Great.Ranges
namespace Go.Proofs.YtpnchdgplpdefaaDoor
open Go.RowKit
structure Fr (T : Nat → Prop) (w w' : World) : Prop where
 os : w'.os = w.os
 tape : w'.tape = w.tape
 output : w'.output = w.output
 size : w.heap.size ≤ w'.heap.size
 block : ∀ k, k < w.heap.size → ¬ T k → w'.heap[k]? = w.heap[k]?
def Nothing : Nat → Prop := fun _ => False
def Rows1 (v : Value) : Nat → Prop := fun k => v.ownBlock = some k
section
variable {T T' : Nat → Prop} {a b c w w' : World}
theorem Fr.refl (T : Nat → Prop) (w : World) : Fr T w w := ⟨rfl, rfl, rfl, Nat.le_refl _, fun _ _ _ => rfl⟩
theorem Fr.trans (h : Fr T a b) (k : Fr T b c) : Fr T a c :=
 ⟨k.os.trans h.os, k.tape.trans h.tape, k.output.trans h.output, Nat.le_trans h.size k.size, fun i hi ht => (k.block i (Nat.lt_of_lt_of_le hi h.size) ht).trans (h.block i hi ht)⟩
theorem Fr.then_ (h : Fr T a b) (k : Fr T' b c) (hT : ∀ i, i < a.heap.size → T' i → T i) : Fr T a c :=
 ⟨k.os.trans h.os, k.tape.trans h.tape, k.output.trans h.output, Nat.le_trans h.size k.size, fun i hi ht => (k.block i (Nat.lt_of_lt_of_le hi h.size) (fun h' => ht (hT i hi h'))).trans (h.block i hi ht)⟩
theorem Fr.mono (h : Fr T a b) (hT : ∀ i, i < a.heap.size → T i → T' i) : Fr T' a b :=
 ⟨h.os, h.tape, h.output, h.size, fun i hi ht => h.block i hi (fun h' => ht (hT i hi h'))⟩
theorem Fr.weak (h : Fr Nothing a b) : Fr T a b := h.mono (fun _ _ x => x.elim)
theorem Fr.drew (h : Fr T a w) : Fr T a w.drew := ⟨h.os, h.tape, h.output, h.size, h.block⟩
theorem Fr.drewN (h : Fr T a w) (n : Nat) : Fr T a (w.drewN n) := ⟨h.os, h.tape, h.output, h.size, h.block⟩
theorem Fr.alloc (h : Fr T a w) (o : Obj) : Fr T a (w.alloc o) :=
 h.trans ⟨rfl, rfl, rfl, by simp, fun k hk _ => Below.heap_alloc _ _ _ hk⟩
theorem Fr.setCell (h : Fr T a w) {p : Addr} (hp : p.block < a.heap.size → T p.block) (u : Value) : Fr T a (w.setCell p u) :=
 h.then_ (T' := fun k => k = p.block) ⟨rfl, rfl, rfl, by simp [World.setCell], fun k _ ht => Below.heap_setCell _ _ _ _ ht⟩ (fun i hi e => by subst e; exact hp hi)
theorem Fr.grown {row : Option Nat} (hg : w.grownBy w' row) : Fr (fun k => some k = row) w w' := ⟨hg.os, hg.tape, hg.output, hg.size, hg.block⟩
theorem Fr.below {B : Nat} (h : Fr T a b) (hB : B ≤ a.heap.size) (hT : ∀ i, T i → B ≤ i) : Below B a b :=
 ⟨h.os, h.tape, h.output, h.size, fun k hk => h.block k (by omega) (fun h' => by have := hT k h'; omega)⟩
theorem Fr.below0 (h : Fr Nothing a b) : Below a.heap.size a b := h.below (Nat.le_refl _) (fun _ x => x.elim)
theorem Fr.cell (h : Fr T a b) {p : Addr} (hp : p.block < a.heap.size) (ht : ¬ T p.block) : b.cell? p = a.cell? p := World.cell?_of_block (h.block p.block hp ht)
theorem Fr.frozen (h : Fr T a b) {p : Addr} (hp : p.block < a.heap.size) (ht : ¬ T p.block) : b.frozen? p = a.frozen? p := World.frozen?_of_block (h.block p.block hp ht)
theorem Fr.cellSome (h : Fr T a b) {p : Addr} {v : Value} (hv : a.cell? p = some v) (ht : ¬ T p.block) : b.cell? p = some v := (h.cell (World.block_lt_of_cell? a p hv) ht).trans hv
end
theorem block_of_add (a : Addr) (n : Nat) : (a.add n).block = a.block := by unfold Addr.add; split <;> rfl
theorem add_of_add (a : Addr) (i j : Nat) : (a.add i).add j = a.add (i + j) := by
 unfold Addr.add
 by_cases hi : i = 0 <;> by_cases hj : j = 0 <;> simp [hi, hj, Nat.add_assoc]
def Rd (w : World) (S : Nat → Prop) (size : Nat) (A : Option Addr) (n : Nat) (xs : List Value) : Prop :=
 xs.length = n * size ∧ (0 < n → ∃ ad, A = some ad ∧ S ad.block ∧ ∀ j u, xs[j]? = some u → w.cell? (ad.add j) = some u)
section
variable {w w' : World} {S S' T : Nat → Prop} {size n : Nat} {A : Option Addr} {xs : List Value}
theorem Rd.none_ : Rd w S size A 0 [] := ⟨by simp, fun h => absurd h (by omega)⟩
theorem Rd.at_ {k : Nat} (h : Rd w S 1 A n xs) (hk : k < n) : ∃ ad u, A = some ad ∧ S ad.block ∧ xs[k]? = some u ∧ w.cell? (ad.add k) = some u := by
 obtain ⟨ad, e, hb, hc⟩ := h.2 (by omega)
 have hl : k < xs.length := by have := h.1; omega
 exact ⟨ad, xs[k], e, hb, List.getElem?_eq_getElem hl, hc k _ (List.getElem?_eq_getElem hl)⟩
theorem Rd.keep (h : Rd w S size A n xs) (hk : ∀ p : Addr, S p.block → ∀ u, w.cell? p = some u → w'.cell? p = some u) : Rd w' S size A n xs :=
 ⟨h.1, fun hn => by
  obtain ⟨ad, e, hb, hc⟩ := h.2 hn
  exact ⟨ad, e, hb, fun j u hu => hk _ (by rw [block_of_add]; exact hb) u (hc j u hu)⟩⟩
theorem Rd.fr (h : Rd w S size A n xs) (hf : Fr T w w') (hd : ∀ k, S k → ¬ T k) : Rd w' S size A n xs := h.keep fun _ hp _ hu => hf.cellSome hu (hd _ hp)
theorem Rd.fr0 (h : Rd w S size A n xs) (hf : Fr Nothing w w') : Rd w' S size A n xs := h.fr hf (fun _ _ x => x)
theorem Rd.mono (h : Rd w S size A n xs) (hS : ∀ k, S k → S' k) : Rd w S' size A n xs :=
 ⟨h.1, fun hn => by
  obtain ⟨ad, e, hb, hc⟩ := h.2 hn
  exact ⟨ad, e, hS _ hb, hc⟩⟩
theorem Rd.cut (h : Rd w S size A n xs) {k cap : Nat} (hk : k ≤ n) (hc : n ≤ cap) :
  Rd w S size (if cap = k then A else A.map (·.add (k * size))) (n - k) (xs.drop (k * size)) := by
 refine ⟨by rw [List.length_drop, h.1, Nat.sub_mul], fun hn => ?_⟩
 obtain ⟨ad, rfl, hb, hcell⟩ := h.2 (by omega)
 rw [if_neg (by omega)]
 refine ⟨ad.add (k * size), rfl, by rw [block_of_add]; exact hb, fun j u hu => ?_⟩
 rw [add_of_add]
 exact hcell _ u (by rw [← hu, List.getElem?_drop])
theorem Rd.take (h : Rd w S size A n xs) {k : Nat} (hk : k ≤ n) : Rd w S size A k (xs.take (k * size)) := by
 refine ⟨by rw [List.length_take, h.1]; exact Nat.min_eq_left (Nat.mul_le_mul_right _ hk), fun hn => ?_⟩
 obtain ⟨ad, rfl, hb, hcell⟩ := h.2 (by omega)
 refine ⟨ad, rfl, hb, fun j u hu => hcell j u ?_⟩
 rw [List.getElem?_take] at hu
 split at hu
 ·exact hu
 ·cases hu
theorem Rd.of_own {base : Nat} {e : TypeId} {c : Nat} (h : w.ownsRow base e size (.slice A n c) n xs) : Rd w (Rows1 (.slice A n c)) size A n xs := by
 refine ⟨h.1, fun hn => ?_⟩
 obtain ⟨g, cap, hv, _, hlt⟩ := h.form hn
 have hA : A = some ⟨g, 0, none⟩ := by injection hv
 subst hA
 exact ⟨_, rfl, rfl, h.cells (g := g) rfl⟩
end
def Blk (w : World) (g : Nat) (t : TypeId) (cs : Array Value) : Prop := w.heap[g]? = some (.cells cs t (0, 0))
section
variable {w w' : World} {g : Nat} {t : TypeId} {cs : Array Value} {T : Nat → Prop}
theorem Blk.lt (h : Blk w g t cs) : g < w.heap.size := by
 rcases Nat.lt_or_ge g w.heap.size with hlt | hge
 ·exact hlt
 ·unfold Blk at h; rw [Array.getElem?_eq_none hge] at h; cases h
theorem Blk.cell (h : Blk w g t cs) (i : Nat) : w.cell? ⟨g, i, none⟩ = cs[i]? := cell_of_row w g i cs t (0, 0) h
theorem Blk.frozen (h : Blk w g t cs) (i : Nat) : w.frozen? ⟨g, i, none⟩ = false := by
 unfold Blk at h
 simp [World.frozen?, h]
theorem Blk.new (w : World) (t : TypeId) (cs : Array Value) : Blk (w.alloc (.cells cs t)) w.heap.size t cs := heap_alloc_new w _
theorem Blk.drew (h : Blk w g t cs) : Blk w.drew g t cs := h
theorem Blk.drewN (h : Blk w g t cs) (n : Nat) : Blk (w.drewN n) g t cs := h
theorem Blk.alloc (h : Blk w g t cs) (o : Obj) : Blk (w.alloc o) g t cs := (Below.heap_alloc w o g h.lt).trans h
theorem Blk.set_ (h : Blk w g t cs) (i : Nat) (u : Value) : Blk (w.setCell ⟨g, i, none⟩ u) g t (cs.setIfInBounds i u) := by
 unfold Blk at h ⊢
 simp [World.setCell, Array.getElem?_modify, h]
theorem Blk.far (h : Blk w g t cs) {p : Addr} (hp : g ≠ p.block) (u : Value) : Blk (w.setCell p u) g t cs := (Below.heap_setCell w p u g hp).trans h
theorem Blk.fr (h : Blk w g t cs) (hf : Fr T w w') (hT : ¬ T g) : Blk w' g t cs := (hf.block g h.lt hT).trans h
theorem Blk.ne_ {g' : Nat} {t' : TypeId} {cs' : Array Value} (h : Blk w g t cs) (h' : Blk w g' t' cs') (hne : t ≠ t') : g ≠ g' := by
 rintro rfl
 unfold Blk at h h'
 rw [h] at h'
 injection h' with h'
 injection h' with _ ht
 exact hne ht
theorem own_blk_ne {base : Nat} {e : TypeId} {size n : Nat} {v : Value} {xs : List Value} (h : w.ownsRow base e size v n xs) (hg : Blk w g t cs) (hne : e ≠ t) : v.ownBlock ≠ some g := by
 rcases h.2 with ⟨rfl, _⟩ | ⟨g', cap, cur, rfl, _, hh, _⟩
 ·simp [Value.ownBlock]
 ·intro he
  have : g' = g := by simpa [Value.ownBlock] using he
  subst this
  exact Blk.ne_ (t := e) hh hg hne rfl
theorem own_fr {base : Nat} {e : TypeId} {size n : Nat} {v : Value} {xs : List Value} (h : w.ownsRow base e size v n xs) (hf : Fr T w w') (hT : ∀ k, v.ownBlock = some k → ¬ T k) : w'.ownsRow base e size v n xs := by
 refine ⟨h.1, ?_⟩
 rcases h.2 with hn | ⟨g, cap, cur, rfl, hb, hgg, rest⟩
 ·exact .inl hn
 ·exact .inr ⟨g, cap, cur, rfl, hb, (hf.block g (Array.getElem?_eq_some_iff.1 hgg).1 (hT g rfl)).trans hgg, rest⟩
end
end Go.Proofs.YtpnchdgplpdefaaDoor
namespace Go.Proofs.YtpnchdgplpdefaaDoor
open Go.RowKit
theorem own_shape {w : World} {base : Nat} {e : TypeId} {size n : Nat} {v : Value} {xs : List Value} (h : w.ownsRow base e size v n xs) : ∃ A c, v = .slice A n c ∧ n ≤ c := by
 rcases h.2 with ⟨rfl, rfl⟩ | ⟨g, cap, cur, rfl, _, _, hc, _⟩
 ·exact ⟨none, 0, rfl, Nat.le_refl _⟩
 ·exact ⟨_, cap, rfl, hc⟩
theorem own_slice {w : World} {base : Nat} {e : TypeId} {size n : Nat} {v : Value} {xs : List Value} (h : w.ownsRow base e size v n xs) : ∃ A m c, v = .slice A m c ∧ Hid (m = n) ∧ Hid (m ≤ c) := by
 obtain ⟨A, c, h1, h2⟩ := own_shape h
 exact ⟨A, n, c, h1, rfl, h2⟩
structure Grew (e : TypeId) (size : Nat) (w : World) (v : Value) (w' : World) (v' : Value) (n : Nat) (xs : List Value) : Prop where
 own : w'.ownsRow 0 e size v' n xs
 fr : Fr (Rows1 v) w w'
 lies : ∀ k, v'.ownBlock = some k → v.ownBlock = some k ∨ w.heap.size ≤ k
theorem Grew.start {e : TypeId} {size : Nat} {w : World} {v : Value} {n : Nat} {xs : List Value} (h : w.ownsRow 0 e size v n xs) : Grew e size w v w v n xs :=
 ⟨h, Fr.refl _ _, fun _ hk => .inl hk⟩
theorem Grew.trans {e : TypeId} {size : Nat} {w w1 w2 : World} {v v1 v2 : Value} {n m : Nat} {xs ys : List Value} (h : Grew e size w v w1 v1 n xs) (k : Grew e size w1 v1 w2 v2 m ys) : Grew e size w v w2 v2 m ys :=
  ⟨k.own, h.fr.then_ k.fr (fun i hi hr => by rcases h.lies i hr with h1 | h1; exact h1; omega),
   fun i hi => by
    rcases k.lies i hi with h1 | h1
    · exact h.lies i h1
    · exact .inr (Nat.le_trans h.fr.size h1)⟩
theorem Grew.ahead {e : TypeId} {size : Nat} {w w1 w2 : World} {v v2 : Value} {m : Nat} {ys : List Value} (h : Fr Nothing w w1) (k : Grew e size w1 v w2 v2 m ys) : Grew e size w v w2 v2 m ys :=
 ⟨k.own, (h.weak).trans k.fr, fun i hi => by
  rcases k.lies i hi with h1 | h1
  ·exact .inl h1
  ·exact .inr (Nat.le_trans h.size h1)⟩
theorem Grew.behind {e : TypeId} {size : Nat} {w w1 w2 : World} {v v1 : Value} {m : Nat} {ys : List Value} (h : Grew e size w v w1 v1 m ys) (k : Fr Nothing w1 w2) : Grew e size w v w2 v1 m ys :=
 ⟨own_fr h.own k (fun _ _ x => x), h.fr.trans k.weak, h.lies⟩
theorem Grew.fresh {e : TypeId} {size : Nat} {w w1 w2 : World} {v v2 : Value} {m : Nat} {ys : List Value} (h : Fr Nothing w w1) (hv : ∀ k, v.ownBlock = some k → w.heap.size ≤ k) (k : Grew e size w1 v w2 v2 m ys) : Grew e size w (.slice none 0 0) w2 v2 m ys :=
 ⟨k.own, (h.then_ k.fr (fun i hi hr => by have := hv i hr; omega)).weak, fun i hi => by
  rcases k.lies i hi with h1 | h1
  ·exact .inr (hv i h1)
  ·exact .inr (Nat.le_trans h.size h1)⟩
theorem Grew.fr0 {e : TypeId} {size : Nat} {w w2 : World} {v2 : Value} {m : Nat} {ys : List Value} (k : Grew e size w (.slice none 0 0) w2 v2 m ys) : Fr Nothing w w2 :=
 k.fr.mono (fun i _ h => by simp [Rows1, Value.ownBlock] at h)
theorem Grew.new {e : TypeId} {size : Nat} {w w2 : World} {v2 : Value} {m : Nat} {ys : List Value} (k : Grew e size w (.slice none 0 0) w2 v2 m ys) : ∀ i, v2.ownBlock = some i → w.heap.size ≤ i := fun i hi => by
 rcases k.lies i hi with h | h
 ·simp [Value.ownBlock] at h
 ·exact h
section
variable {P : Program} (w : World)
theorem run_append_of_nil (base : Nat) (t ty e : TypeId) (i : TypeInfo) (size : Nat) (ht : P.underlying t = some (.slice e)) (hi : P.info? e = some i)
  (v : Value) (n : Nat) (xs : List Value) (hown : w.ownsRow base e size v n xs) (c : Nat) : (Builtin.append_ #[t, t] ty #[v, .slice none 0 c]).run P w = .ok v w := by
 rcases hown.2 with ⟨rfl, rfl⟩ | ⟨g, cap, cur, rfl, _, _, hnc, _⟩
 ·simp [Builtin.append_, run_underlying ht, sizeOf, typeInfo, hi, Builtin.lenOf, Builtin.firstCells]
 ·simp [Builtin.append_, run_underlying ht, sizeOf, typeInfo, hi, Builtin.lenOf, Builtin.firstCells, hnc, storeCells]
theorem run_app (t ty e : TypeId) (i : TypeInfo) (z : Value) (size bytes : Nat) (ht : P.underlying t = some (.slice e)) (hi : P.info? e = some i) (hz : i.zero = some z)
  (hsize : i.size = size) (hby : i.bytes = bytes) (hzs : z.cells.size = size) (hsz : 0 < size)
  (v : Value) (n : Nat) (xs : List Value) (hown : w.ownsRow 0 e size v n xs)
  (S : Nat → Prop) (A : Option Addr) (m c : Nat) (news : List Value) (hr : Rd w S size A m news) (h1 : ∀ u ∈ news, u.oneCell' = true)
  (hbytes : (n + m) * bytes ≤ 140737488355328) (hb1 : 1 ≤ bytes) :
  ∃ v' w', (Builtin.append_ #[t, t] ty #[v, .slice A m c]).run P w = .ok v' w' ∧ Grew e size w v w' v' (n + m) (xs ++ news) := by
 have h63 : n + m ≤ maxLen := by
  have : n + m ≤ (n + m) * bytes := Nat.le_mul_of_pos_right _ hb1
  simp only [maxLen]
  omega
 rcases A with _ | ad
 ·have hm : m = 0 := by
   rcases Nat.eq_zero_or_pos m with h0 | h0
   ·exact h0
   ·obtain ⟨ad, h, _⟩ := hr.2 h0
    cases h
  subst hm
  have hn : news = [] := List.eq_nil_of_length_eq_zero (by simpa using hr.1)
  subst hn
  exact ⟨v, w, run_append_of_nil w 0 t ty e i size ht hi v n xs hown c, by simpa using Grew.start hown⟩
 ·have hcells : ∀ j u, news[j]? = some u → w.cell? (ad.add j) = some u := by
   intro j u hu
   rcases Nat.eq_zero_or_pos m with h0 | h0
   ·subst h0
    have hn : news = [] := List.eq_nil_of_length_eq_zero (by simpa using hr.1)
    subst hn
    simp at hu
   ·obtain ⟨ad', h, _, hc⟩ := hr.2 h0
    injection h with h
    subst h
    exact hc j u hu
  obtain ⟨v', w', hrun, h2, h3, _, h5⟩ := run_append_own_at (P := P) w 0 t ty e i z size bytes ht hi hz hsize hby hzs hsz v n xs hown ad m c news hr.1 hcells h1 h63 hbytes (Nat.zero_le _)
  refine ⟨v', w', hrun, h2, (Fr.grown h3).mono (fun k _ hk => hk.symm), fun k hk => ?_⟩
  rcases h5 with h5 | h5
  ·exact .inl (h5 ▸ hk)
  ·rw [h5] at hk
   exact .inr (by injection hk with hk; omega)
theorem wp_app {o : Oper} {a : Act} {K : Act → World → Prop} {Q : Exit → Act → World → Prop} (s x : Operand) (t : TypeId)
  (ho : o.op = .call { callee := .builtin .append, args := #[s, x], argTypes := #[t, t] })
  (e : TypeId) (i : TypeInfo) (z : Value) (size bytes : Nat) (ht : P.underlying t = some (.slice e)) (hi : P.info? e = some i) (hz : i.zero = some z)
  (hsize : i.size = size) (hby : i.bytes = bytes) (hzs : z.cells.size = size) (hsz : 0 < size)
  (v : Value) (n : Nat) (xs : List Value) (hs : a.eval s = v) (hown : w.ownsRow 0 e size v n xs)
  (S : Nat → Prop) (A : Option Addr) (m c : Nat) (news : List Value) (hx : a.eval x = .slice A m c) (hr : Rd w S size A m news) (h1 : ∀ u ∈ news, u.oneCell' = true)
  (hbytes : (n + m) * bytes ≤ 140737488355328) (hb1 : 1 ≤ bytes)
  (h : ∀ v' w', Grew e size w v w' v' (n + m) (xs ++ news) → K (a.put o.dst v') w') : o.wp P a w K Q := by
 obtain ⟨v', w', hrun, h2⟩ := run_app (P := P) w t o.type e i z size bytes ht hi hz hsize hby hzs hsz v n xs hown S A m c news hr h1 hbytes hb1
 unfold Oper.wp execOp
 simp only [ho, resolve, invoke, builtin, Sem.run_bind, Sem.run_pure, Result.andThen_ok, List.map_toArray, List.map_cons, List.map_nil, hs, hx, hrun]
 exact h v' w' h2
theorem wpList_app {ops : Array Oper} {rest : List Oper} {o : Oper} {a : Act} {Q : Exit → Act → World → Prop} (hgd : o.guard = none) (s x : Operand) (t : TypeId)
  (ho : o.op = .call { callee := .builtin .append, args := #[s, x], argTypes := #[t, t] })
  (e : TypeId) (i : TypeInfo) (z : Value) (size bytes : Nat) (ht : P.underlying t = some (.slice e)) (hi : P.info? e = some i) (hz : i.zero = some z)
  (hsize : i.size = size) (hby : i.bytes = bytes) (hzs : z.cells.size = size) (hsz : 0 < size)
  (v : Value) (n : Nat) (xs : List Value) (hs : a.eval s = v) (hown : w.ownsRow 0 e size v n xs)
  (S : Nat → Prop) (A : Option Addr) (m c : Nat) (news : List Value) (hx : a.eval x = .slice A m c) (hr : Rd w S size A m news) (h1 : ∀ u ∈ news, u.oneCell' = true)
  (hbytes : (n + m) * bytes ≤ 140737488355328) (hb1 : 1 ≤ bytes)
  (h : ∀ v' w', Grew e size w v w' v' (n + m) (xs ++ news) → wpList P ops Q rest (a.put o.dst v') w') : wpList P ops Q (o :: rest) a w :=
 wpList_plain hgd fun _ hK => wp_app w s x t ho e i z size bytes ht hi hz hsize hby hzs hsz v n xs hs hown S A m c news hx hr h1 hbytes hb1 fun v' w' h2 => hK _ _ (h v' w' h2)
theorem rd_new (cs : Array Value) (e : TypeId) (size n : Nat) (hs : cs.size = n * size) : Rd (w.alloc (.cells cs e)) (fun k => k = w.heap.size) size (some ⟨w.heap.size, 0, none⟩) n cs.toList := by
 refine ⟨by simpa using hs, fun _ => ⟨_, rfl, rfl, fun j u hu => ?_⟩⟩
 have hb := Blk.new w e cs
 have h := hb.cell j
 rw [show (⟨w.heap.size, 0, none⟩ : Addr).add j = ⟨w.heap.size, j, none⟩ by unfold Addr.add; split <;> simp_all]
 rw [h]
 simpa using hu
theorem wpList_app1 {ops : Array Oper} {rest : List Oper} {o : Oper} {a : Act} {Q : Exit → Act → World → Prop} (hgd : o.guard = none) (s x : Operand) (t : TypeId)
  (ho : o.op = .call { callee := .builtin .append, args := #[s, x], argTypes := #[t, t] })
  (e : TypeId) (i : TypeInfo) (z : Value) (size bytes : Nat) (ht : P.underlying t = some (.slice e)) (hi : P.info? e = some i) (hz : i.zero = some z)
  (hsize : i.size = size) (hby : i.bytes = bytes) (hzs : z.cells.size = size) (hsz : 0 < size)
  (v : Value) (n : Nat) (xs : List Value) (hs : a.eval s = v) (hown : w.ownsRow 0 e size v n xs)
  (m : Nat) (cs : Array Value) (g : Nat) (hg : g = w.heap.size) (hx : a.eval x = .slice (some ⟨g, 0, none⟩) m m) (hcs : cs.size = m * size) (h1 : ∀ u ∈ cs.toList, u.oneCell' = true)
  (hbytes : (n + m) * bytes ≤ 140737488355328) (hb1 : 1 ≤ bytes)
  (h : ∀ v' w', Grew e size w v w' v' (n + m) (xs ++ cs.toList) → wpList P ops Q rest (a.put o.dst v') w') : wpList P ops Q (o :: rest) a (w.alloc (.cells cs e)) := by
 subst hg
 exact wpList_app _ hgd s x t ho e i z size bytes ht hi hz hsize hby hzs hsz v n xs hs (hown.alloc _) _ _ m m cs.toList hx (rd_new w cs e size m hcs) h1 hbytes hb1
  (fun v' w' hg => h v' w' (hg.ahead ((Fr.refl _ _).alloc _)))
theorem run_app_string (t u ty e : TypeId) (i : TypeInfo) (ht : P.underlying t = some (.slice e)) (hu : P.underlying u = some .string) (hi : P.info? e = some i) (hz : i.zero = some (.int .u8 0))
  (hsize : i.size = 1) (hby : i.bytes = 1)
  (v : Value) (n : Nat) (xs : List Value) (hown : w.ownsRow 0 e 1 v n xs) (s : ByteArray) (hbytes : n + s.size ≤ 140737488355328) :
  ∃ v' w', (Builtin.append_ #[t, u] ty #[v, .string s]).run P w = .ok v' w' ∧ Grew e 1 w v w' v' (n + s.size) (xs ++ Lib.strCells s) := by
 have h63 : n + s.size ≤ maxLen := by simp only [maxLen]; omega
 obtain ⟨v', w', hr, h2, h3, h4⟩ := Lib.run_append_own_string (P := P) w 0 t u ty e i ht hu hi hz hsize hby v n xs hown s h63 hbytes (Nat.zero_le _)
 refine ⟨v', w', hr, h2, (Fr.grown h3).mono (fun k _ hk => hk.symm), ?_⟩
 have hxl : xs.length = n := by simpa using hown.1
 rcases hown.2 with ⟨rfl, rfl⟩ | ⟨g, cap, cur, rfl, hbg, hg, hnc, hcm, hcs, htake⟩
 ·by_cases hm : s.size = 0
  ·have : v' = .slice none 0 0 := h4.2 ⟨rfl, hm⟩
   subst this
   intro k hk
   simp [Value.ownBlock] at hk
  ·have hr2 := run_append_nil_string (P := P) w t u ty e i (.int .u8 0) ht hu hi hz s (by omega) (by omega) (by rw [hby]; omega)
   rw [hr] at hr2
   injection hr2 with hr2 _
   subst hr2
   intro k hk
   simp [Value.ownBlock] at hk
   exact .inr (by omega)
 ·by_cases hroom : n + s.size ≤ cap
  ·have hr2 := Lib.run_append_room_string (P := P) w t u ty e i ht hu hi hsize g n cap cur hg s hroom (by rw [hcs]; omega)
   rw [hr] at hr2
   injection hr2 with hr2 _
   subst hr2
   intro k hk
   exact .inl hk
  ·have holds : ∀ j u, xs[j]? = some u → w.cell? ((⟨g, 0, none⟩ : Addr).add j) = some u := hown.cells (g := g) rfl
   have hr2 := Lib.run_append_grow_string (P := P) w t u ty e i (.int .u8 0) ht hu hi hz ⟨g, 0, none⟩ n cap xs (by rw [hsize]; simpa using hxl) holds s (by omega) (by omega) (by rw [hby]; exact growslice_fits (by omega) (by omega))
   rw [hr] at hr2
   injection hr2 with hr2 _
   subst hr2
   intro k hk
   simp [Value.ownBlock] at hk
   exact .inr (by omega)
theorem wpList_app_string {ops : Array Oper} {rest : List Oper} {o : Oper} {a : Act} {Q : Exit → Act → World → Prop} (hgd : o.guard = none) (sl x : Operand) (t u : TypeId)
  (ho : o.op = .call { callee := .builtin .append, args := #[sl, x], argTypes := #[t, u] })
  (e : TypeId) (i : TypeInfo) (ht : P.underlying t = some (.slice e)) (hu : P.underlying u = some .string) (hi : P.info? e = some i) (hz : i.zero = some (.int .u8 0))
  (hsize : i.size = 1) (hby : i.bytes = 1)
  (v : Value) (n : Nat) (xs : List Value) (hs : a.eval sl = v) (hown : w.ownsRow 0 e 1 v n xs) (s : ByteArray) (hx : a.eval x = .string s)
  (hbytes : n + s.size ≤ 140737488355328)
  (h : ∀ v' w', Grew e 1 w v w' v' (n + s.size) (xs ++ Lib.strCells s) → wpList P ops Q rest (a.put o.dst v') w') : wpList P ops Q (o :: rest) a w := by
 refine wpList_plain hgd fun K hK => ?_
 obtain ⟨v', w', hr, h2⟩ := run_app_string (P := P) w t u o.type e i ht hu hi hz hsize hby v n xs hown s hbytes
 unfold Oper.wp execOp
 simp only [ho, resolve, invoke, builtin, Sem.run_bind, Sem.run_pure, Result.andThen_ok, List.map_toArray, List.map_cons, List.map_nil, hs, hx, hr]
 exact hK _ _ (h v' w' h2)
end
end Go.Proofs.YtpnchdgplpdefaaDoor
namespace Go.Proofs.YtpnchdgplpdefaaDoor
open Go.RowKit
structure In (C : World → Prop) where
 w : World
 h : C w
theorem In.call {P : Program} {f : FuncId} {args : Array Value} {C : World → Prop} {x : In C} {v : Value}
  (h : Calls P f args x.w fun e w' => e = .returned v ∧ C w') : Calls P f args x.w fun e w'' => e = .returned v ∧ ∃ y : In C, w'' = y.w :=
 h.mono fun _ w' ⟨he, hc⟩ => ⟨he, ⟨w', hc⟩, rfl⟩
theorem In.same {P : Program} {f : FuncId} {args : Array Value} {C : World → Prop} {x : In C} {v : Value}
  (h : Calls P f args x.w fun e w' => e = .returned v ∧ x.w = w') : Calls P f args x.w fun e w'' => e = .returned v ∧ ∃ y : In C, w'' = y.w :=
 h.mono fun _ _ ⟨he, hw⟩ => ⟨he, x, hw.symm⟩
abbrev Later (w0 : World) : World → Prop := fun w => Fr Nothing w0 w
instance Later.ne (w0 : World) : Nonempty (In (Later w0)) := ⟨⟨w0, Fr.refl _ _⟩⟩
theorem In.later {P : Program} {f : FuncId} {args : Array Value} {w0 : World} {x : In (Later w0)} {v : Value}
  (h : Calls P f args x.w fun e w' => e = .returned v ∧ Fr Nothing x.w w') : Calls P f args x.w fun e w'' => e = .returned v ∧ ∃ y : In (Later w0), w'' = y.w :=
 In.call (h.mono fun _ _ ⟨he, hf⟩ => ⟨he, x.h.trans hf⟩)
end Go.Proofs.YtpnchdgplpdefaaDoor
namespace Go.Proofs.YtpnchdgplpdefaaDoor
open Go.RowKit
abbrev Old (w : World) : Nat → Prop := fun k => k < w.heap.size
section
variable {X : Type} (cells : X → List Value) (size : Nat)
end
end Go.Proofs.YtpnchdgplpdefaaDoor
namespace Go.Proofs.YtpnchdgplpdefaaDoor
def rotr (n x : Nat) : Nat := (x / 2 ^ n) ||| (x * 2 ^ (32 - n) % 4294967296)
def add32 (a b : Nat) : Nat := (a + b) % 4294967296
def xor32 (a b : Nat) : Nat := a ^^^ b
def and32 (a b : Nat) : Nat := a &&& b
def not32 (a : Nat) : Nat := 4294967295 - a
structure St8 where
 a : Nat
 b : Nat
 c : Nat
 d : Nat
 e : Nat
 f : Nat
 g : Nat
 h : Nat
structure St8.ok (s : St8) : Prop where
 a : s.a < 4294967296
 b : s.b < 4294967296
 c : s.c < 4294967296
 d : s.d < 4294967296
 e : s.e < 4294967296
 f : s.f < 4294967296
 g : s.g < 4294967296
 h : s.h < 4294967296
def roundP (s : St8) (k w : Nat) : Nat := add32 (add32 (add32 (add32 s.h (xor32 (xor32 (rotr 6 s.e) (rotr 11 s.e)) (rotr 25 s.e))) (xor32 (and32 s.e s.f) (and32 (not32 s.e) s.g))) k) w
def roundQ (s : St8) : Nat := add32 (xor32 (xor32 (rotr 2 s.a) (rotr 13 s.a)) (rotr 22 s.a)) (xor32 (xor32 (and32 s.a s.b) (and32 s.a s.c)) (and32 s.b s.c))
def round (s : St8) (k w : Nat) : St8 := ⟨add32 (roundP s k w) (roundQ s), s.a, s.b, s.c, add32 s.d (roundP s k w), s.e, s.f, s.g⟩
end Go.Proofs.YtpnchdgplpdefaaDoor
namespace Go.Proofs.YtpnchdgplpdefaaDoor
end Go.Proofs.YtpnchdgplpdefaaDoor
namespace Go.Proofs.YtpnchdgplpdefaaDoor
end Go.Proofs.YtpnchdgplpdefaaDoor
namespace Go.Proofs.YtpnchdgplpdefaaDoor
end Go.Proofs.YtpnchdgplpdefaaDoor
namespace Go.Proofs.YtpnchdgplpdefaaDoor
open Go.RowKit
end Go.Proofs.YtpnchdgplpdefaaDoor
namespace Go.Proofs.YtpnchdgplpdefaaDoor
open Go.RowKit
def u32v (n : Nat) : Value := .int .u32 (n : Int)
def Same' (w : World) (v : Value) (e : Ending) (w' : World) : Prop := e = .returned v ∧ Fr Nothing w w'
theorem heap_setRow_same {w : World} {g : Nat} {t : TypeId} {old cs : Array Value} (h : Blk w g t old) : Blk (w.setRow g cs) g t cs := by
 unfold Blk at h ⊢
 simp [World.setRow, Array.getElem?_modify, h]
theorem Fr.setRow {T : Nat → Prop} {a w : World} (h : Fr T a w) {g : Nat} (hg : g < a.heap.size → T g) (cs : Array Value) : Fr T a (w.setRow g cs) := by
 refine h.then_ (T' := fun k => k = g) ⟨rfl, rfl, rfl, by simp [World.setRow], fun k _ ht => ?_⟩ (fun i hi e => by subst e; exact hg hi)
 simp [World.setRow, Array.getElem?_modify, Ne.symm ht]
end Go.Proofs.YtpnchdgplpdefaaDoor
namespace Go.Proofs.YtpnchdgplpdefaaDoor
open Go.RowKit
end Go.Proofs.YtpnchdgplpdefaaDoor
namespace Go.Proofs.YtpnchdgplpdefaaDoor
open Go.RowKit
structure NewBlk (w w' : World) (t : TypeId) (cells : Array Value) : Prop where
 blk : Blk w' w.heap.size t cells
 fr : Fr Nothing w w'
 size : w'.heap.size = w.heap.size + 1
theorem NewBlk.alloc (w : World) (t : TypeId) (cells : Array Value) : NewBlk w (w.alloc (.cells cells t)) t cells := ⟨Blk.new w t cells, (Fr.refl _ _).alloc _, by simp⟩
theorem wpList_boxBlk {P : Program} {ops : Array Oper} {rest : List Oper} {o : Oper} {a : Act} {w : World} {Q : Exit → Act → World → Prop} (hg : o.guard = none) (t : TypeId) (x : Operand) (ho : o.op = .box t x) (cells : Array Value) (hx : (a.eval x).cells = cells)
  (h : ∀ w', NewBlk w w' t cells → wpList P ops Q rest (a.put o.dst (.pointer (some ⟨w.heap.size, 0, none⟩))) w') : wpList P ops Q (o :: rest) a w :=
 Great.wpList_boxTo hg t x ho _ rfl _ rfl cells hx (h _ (NewBlk.alloc w t cells))
theorem wpList_allocBlk {P : Program} {ops : Array Oper} {rest : List Oper} {o : Oper} {a : Act} {w : World} {Q : Exit → Act → World → Prop} (hg : o.guard = none) (t : TypeId) (ho : o.op = .alloc t) (z : Value) (hz : ∀ w, (zeroValue t).run P w = .ok z w) (cells : Array Value) (hc : z.cells = cells)
  (h : ∀ w', NewBlk w w' t cells → wpList P ops Q rest (a.put o.dst (.pointer (some ⟨w.heap.size, 0, none⟩))) w') : wpList P ops Q (o :: rest) a w := by
 subst hc
 refine wpList_plain hg fun K hK => ?_
 unfold Oper.wp execOp
 simp only [ho, Instr.alloc, Sem.run_bind, hz, newVar, newRow, run_newObj_alloc, Sem.run_pure, Result.andThen_ok]
 exact hK _ _ (h _ (NewBlk.alloc w t z.cells))
theorem wpList_storeBlk {P : Program} {ops : Array Oper} {rest : List Oper} {o : Oper} {a : Act} {w : World} {Q : Exit → Act → World → Prop} (hgd : o.guard = none) (ty : TypeId) (x y : Operand) (ho : o.op = .store ty x y)
  (g : Nat) (cells : Array Value) (hx : a.eval x = .pointer (some ⟨g, 0, none⟩)) (hy : a.eval y = .agg cells)
  (t : TypeId) (old : Array Value) (hg : Blk w g t old) (hi : (P.info? ty).map (·.size) = some cells.size)
  (hold : old.size = cells.size) (h1 : cells.all (·.oneCell') = true)
  (h : ∀ w', Blk w' g t cells → Fr (fun k => k = g) w w' → wpList P ops Q rest (a.put o.dst undef) w') : wpList P ops Q (o :: rest) a w :=
 wpList_store_row hgd ty x y ho g cells hx hy t old hg hi hold h1 (h _ (heap_setRow_same hg) ((Fr.refl (fun k => k = g) w).setRow (fun _ => rfl) cells))
end Go.Proofs.YtpnchdgplpdefaaDoor
namespace Go.Proofs.YtpnchdgplpdefaaDoor
open Go.RowKit
def SchedW (w wr : World) (g : Nat) (l : List Nat) : Prop :=
 Fr Nothing w wr ∧ w.heap.size = g ∧ Blk wr g 196 ((l ++ List.replicate (64 - l.length) 0).map u32v).toArray
theorem SchedW.at_ {w wr : World} {g : Nat} {l : List Nat} (h : SchedW w wr g l) {k : Nat} (hk : k < 64) : ∃ u, wr.cell? ⟨g, k, none⟩ = some u := by
 rw [h.2.2.cell]
 simp only [List.getElem?_toArray]
 refine ⟨_, List.getElem?_eq_getElem ?_⟩
 simp; omega
theorem SchedW.drew {w wr : World} {g : Nat} {l : List Nat} (h : SchedW w wr g l) : SchedW w wr.drew g l := ⟨h.1.drew, h.2.1, h.2.2.drew⟩
theorem SchedW.drewN {w wr : World} {g : Nat} {l : List Nat} (h : SchedW w wr g l) (n : Nat) : SchedW w (wr.drewN n) g l := ⟨h.1.drewN n, h.2.1, h.2.2.drewN n⟩
theorem SchedW.put {w wr : World} {g : Nat} {l : List Nat} (h : SchedW w wr g l) {k : Nat} (hk : l.length = k) (h64 : k < 64) (x : Nat) : SchedW w (wr.setCell ⟨g, k, none⟩ (u32v x)) g (l ++ [x]) := by
 refine ⟨h.1.setCell (fun hp => absurd hp (by have := h.2.1; simp; omega)) _, h.2.1, ?_⟩
 have := h.2.2.set_ k (u32v x)
 subst hk
 refine (congrArg (Blk _ g 196) ?_).mp this
 have e : 64 - l.length = (64 - (l ++ [x]).length) + 1 := by simp; omega
 rw [e, List.replicate_succ]
 simp
end Go.Proofs.YtpnchdgplpdefaaDoor
