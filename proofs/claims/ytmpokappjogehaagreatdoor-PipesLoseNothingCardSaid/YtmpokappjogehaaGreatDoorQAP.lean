/- Steps of the proof of LawPipesLoseNothing: contracts of the functions that the law reaches, for every world that holds what each of them asks. -/
import Derived.Test.YtmpokappjogehaaGreatDoorQAA
import Derived.Test.YtmpokappjogehaaGreatDoorQAO
import Derived.MapKept
import Derived.RangeFuncOwn
import Derived.Test.YtmpokappjogehaaGreatDoorQAI
import Derived.StillTail
import Derived.StillTactics
import Derived.Test.YtmpokappjogehaaGreatDoorQAD
set_option linter.unusedVariables false
set_option linter.unusedSimpArgs false
namespace Go.Proofs.YtmpokappjogehaaGreatDoor
namespace Ev
open Go

structure EName where
  kind : Int
  owner : Str
  number : Int
  index : Int
  text : Str
  deriving Repr
structure ECall where
  nm : EName
  value : EV
  absent : Bool
  deriving Repr
inductive XO where
  | rd (s : Str)
  | wr (s : Str)
  | state
  /-- a view: what is below (a symbol for how many calls there are, the last ones of every name), then the calls, the last one first -/
  | view (b : Option (Nat × List ECall)) (l : List ECall)
  deriving Repr
def EName.nv (n : EName) : NameV := ⟨n.kind, n.owner.ba, n.number, n.index, n.text.ba⟩
def EName.beq (a b : EName) : Bool := bif eqF a.kind b.kind then (bif eqF a.number b.number then (bif eqF a.index b.index then (bif a.owner.beq b.owner then a.text.beq b.text else false) else false) else false) else false
def nameOf : List EV → Option EName
  | [.int .i64 k, .str o, .int .i64 n, .int .i64 i, .str t] => some ⟨k, o, n, i, t⟩
  | _ => none
/-- The calls, the last one first. -/
def lastOf (n : EName) : List ECall → Option ECall
  | [] => none
  | c :: l => bif n.beq c.nm then some c else lastOf n l
def okIn (n : EName) : Bool := Nat.ble n.owner.len 1000000 && Nat.ble n.text.len 1000000 && okNm n.nv
def findE (n : EName) (b : Option (Nat × List ECall)) (l : List ECall) : Option ECall := match lastOf n l with
  | some c => some c
  | none => match b with
    | some (_, l0) => lastOf n l0
    | none => none
def isStr : EV → Bool
  | .str _ | .sstr .. => true
  | _ => false
/-! ### Numbers as bytes -/
def encE : Nat → Nat → Str
  | 0, n => ⟨1, n % 256⟩
  | k + 1, n => bif Nat.blt n 128 then ⟨1, n⟩ else (⟨1, n % 128 + 128⟩ : Str).cat (encE k (n / 128))
def numE (n : Nat) : Str := encE 9 n
def Str.tail (s : Str) (k : Nat) : Str := s.sub k s.len
def getE : Nat → Str → Option Nat
  | 0, _ => none
  | k + 1, s => bif Nat.beq s.len 0 then none else
    match s.at 0 with
    | b => bif Nat.blt b 128 then some b else match getE k (s.tail 1) with
      | some r => some (b - 128 + 128 * r)
      | none => none
/-- A number ahead, no greater than the greatest. -/
def readE (most : Int) (s : Str) : Option (Nat × Str) := match getE 9 s with
  | none => none
  | some n => match numE n with
    | e => match s.tail e.len with
      | r => bif (e.cat r).beq s && Nat.ble e.len s.len && leF (.ofNat n) most && Nat.blt n 9223372036854775808 then some (n, r) else none
def textE (s : Str) : Str := (numE s.len).cat s
def readT (most : Int) (s : Str) : Option (Str × Str) := match readE most s with
  | none => none
  | some (n, r) => bif Nat.ble n r.len && Nat.ble n 16777216 then some (r.sub 0 n, r.tail n) else none
def readF (s : Str) : Option (Bool × Str) := bif Nat.beq s.len 0 then none else match s.at 0 with
  | 0 => some (false, s.tail 1)
  | 1 => some (true, s.tail 1)
  | _ => none
def okE : EV := .int .i64 (.ofNat 0)
def noE : EV := .tup []
/-- The functions whose contracts are known. -/
def kCodec (f : Nat) (args : List EV) (m : Mem XO) : Option (EV × Mem XO) :=
  bif Nat.beq f 202 then match args with
    | [.ptr id 0, .int .i64 most] => match m.h.get id with
      | some (.ext (.rd s)) => match readE most s with
        | some (n, r) => some (.int .i64 (.ofNat n), m.upd id (.ext (.rd r)))
        | none => none
      | _ => none
    | _ => none
  else bif Nat.beq f 203 then match args with
    | [.ptr id 0, .int .i64 most] => match m.h.get id with
      | some (.ext (.rd s)) => match readT most s with
        | some (t, r) => some (.str t, m.upd id (.ext (.rd r)))
        | none => none
      | _ => none
    | _ => none
  else bif Nat.beq f 204 then match args with
    | [.ptr id 0] => match m.h.get id with
      | some (.ext (.rd s)) => match readF s with
        | some (t, r) => some (.bool t, m.upd id (.ext (.rd r)))
        | none => none
      | _ => none
    | _ => none
  else bif Nat.beq f 205 then match args with
    | [.ptr id 0] => match m.h.get id with
      | some (.ext (.rd ⟨0, _⟩)) => some (okE, m)
      | _ => none
    | _ => none
  else bif Nat.beq f 201 then match args with
    | [.slc id 0 n 1] => match m.h.get id with
      | some (.brow s) => bif Nat.beq n s.len && Nat.ble n 1000000 then some (.ptr m.nx 0, (m.upd id .dead).new (.ext (.rd s))) else none
      | _ => none
    | _ => none
  else bif Nat.beq f 182 then match args with
    | [] => some (.ptr m.nx 0, m.new (.ext (.wr ⟨0, 0⟩)))
    | _ => none
  else bif Nat.beq f 183 then match args with
    | [.ptr id 0, .int .i64 (.ofNat n)] => match m.h.get id with
      | some (.ext (.wr s)) => bif Nat.ble s.len 1000000 && Nat.ble n 9223372036854775807 then some (noE, m.upd id (.ext (.wr (s.cat (numE n))))) else none
      | _ => none
    | _ => none
  else bif Nat.beq f 184 then match args with
    | [.ptr id 0, .str t] => match m.h.get id with
      | some (.ext (.wr s)) => bif Nat.ble s.len 1000000 && Nat.ble t.len 16777216 then some (noE, m.upd id (.ext (.wr (s.cat (textE t))))) else none
      | _ => none
    | _ => none
  else bif Nat.beq f 270 then match args with
    | [.ptr id 0, .bool b] => match m.h.get id with
      | some (.ext (.wr s)) => bif Nat.ble s.len 1000000 then some (noE, m.upd id (.ext (.wr (s.cat ⟨1, bif b then 1 else 0⟩)))) else none
      | _ => none
    | _ => none
  else bif Nat.beq f 185 then match args with
    | [.ptr id 0] => match m.h.get id with
      | some (.ext (.wr s)) => bif Nat.blt 0 s.len && Nat.ble s.len 1000000 then some (.tup [.slc m.nx 0 s.len 1, okE], (m.upd id .dead).new (.brow s)) else none
      | _ => none
    | _ => none
  else none
def kView (f : Nat) (args : List EV) (m : Mem XO) : Option (EV × Mem XO) :=
  bif Nat.beq f 186 then match args with
    | [.agg cs] => match nameOf cs with
      | some n => bif okIn n then some (okE, m) else none
      | none => none
    | _ => none
  else bif Nat.beq f 98 then match args with
    | [.str s] => bif Nat.ble s.len 1000000 then some (.bool (validO s.ba), m) else none
    | _ => none
  else bif Nat.beq f 303 then match args with
    | [.str s] => bif !Nat.ble s.len 1000000 then none else match validO s.ba, ordsO s.ba with
      | true, x :: l => some (.slc m.nx 0 (l.length + 1) 1, m.new (.row 3 1 ((x :: l).map fun n => .int .i64 n)))
      | _, _ => none
    | _ => none
  else bif Nat.beq f 101 then match args with
    | [.ptr id 0, .agg cs] => match m.h.get id, nameOf cs with
      | some (.ext (.view b l)), some n => bif okIn n && Nat.ble l.length 1000 then match findE n b l with
          | some c => some (.tup [c.value, .bool (!c.absent)], m.upd id (.ext (.view b l)))
          | none => some (.tup [.str ⟨0, 0⟩, .bool false], m.upd id (.ext (.view b l)))
        else none
      | _, _ => none
    | _ => none
  else bif Nat.beq f 187 then match args with
    | [.ptr id 0, .agg [k, o, n, i, t, v, .bool a]] => match m.h.get id, nameOf [k, o, n, i, t] with
      | some (.ext (.view b l)), some n => bif isStr v && Nat.ble l.length 1000 then some (noE, m.upd id (.ext (.view b (⟨n, v, a⟩ :: l)))) else none
      | _, _ => none
    | _ => none
  else bif Nat.beq f 134 then match args with
    | [.ptr id 0] => match m.h.get id with
      | some (.ext (.view none l)) => some (.int .i64 (.ofNat l.length), m)
      | some (.ext (.view (some (s, _)) [])) => some (.sint .i64 s 0 100000, m)
      | _ => none
    | _ => none
  else bif Nat.beq f 13 then match args with
    | [] => some (.ptr m.nx 0, m.new (.ext .state))
    | _ => none
  else bif Nat.beq f 12 then match args with
    | [.ptr id 0] => match m.h.get id with
      | some (.ext .state) => some (.ptr m.nx 0, (m.upd id .dead).new (.ext (.view none [])))
      | _ => none
    | _ => none
  else none
/-- A view's Rollback. -/
def kRoll (f : Nat) (args : List EV) (m : Mem XO) : Option (EV × Mem XO) :=
  bif Nat.beq f 143 then match args with
    | [.ptr id 0, .int .i64 (.ofNat k)] => match m.h.get id with
      | some (.ext (.view none l)) => bif Nat.ble k l.length && Nat.ble l.length 1000 then some (okE, m.upd id (.ext (.view none (l.drop (l.length - k))))) else none
      | _ => none
    | [.ptr id 0, .sint .i64 s _ _] => match m.h.get id with
      | some (.ext (.view (some (s', l0)) l)) => bif Nat.beq s s' && Nat.ble l.length 1000 then some (okE, m.upd id (.ext (.view (some (s', l0)) []))) else none
      | _ => none
    | _ => none
  else none
/-- slices.Insert of strings, not at the end. -/
def kIns (f : Nat) (args : List EV) (m : Mem XO) : Option (EV × Mem XO) :=
  bif Nat.beq f 242 then match args with
    | [.slc a 0 n 1, .int .i64 (.ofNat i), .slc b 0 k 1] => match m.h.get a, m.h.get b with
      | some (.row ta 1 cs), some (.row tb 1 vs) => bif Nat.beq ta 9 && Nat.beq tb 9 && Nat.blt i n && Nat.blt 0 k && !Nat.beq a b && Nat.ble (n + k) 1000000 then match takeN n cs, takeN k vs with
          | some l, some u => bif okCells l && okCells u then some (.slc m.nx 0 (n + k) 1, (m.upd a .dead).new (.row 9 1 (l.take i ++ (u ++ l.drop i)))) else none
          | _, _ => none
        else none
      | _, _ => none
    | _ => none
  else none
/-- How many bytes are c. -/
def countE : Nat → Nat → Nat → Nat
  | 0, _, _ => 0
  | k + 1, n, c => bif Nat.beq (n % 256) c then countE k (n / 256) c + 1 else countE k (n / 256) c
def indexE (s : Str) (c : Nat) : Nat → Nat → Int
  | 0, _ => .negSucc 0
  | k + 1, i => bif Nat.beq (s.at i) c then .ofNat i else indexE s c k (i + 1)
def bAll (f : Nat) (args : List EV) : Option EV :=
  bif Nat.beq f 344 then match args with
    | [.str s, .int .u8 (.ofNat c)] => bif Nat.blt c 256 then some (.int .i64 (.ofNat (countE s.len s.num c))) else none
    | _ => none
  else bif Nat.beq f 359 then match args with
    | [.str s, .int .u8 (.ofNat c)] => bif Nat.blt c 256 then some (.int .i64 (indexE s c s.len 0)) else none
    | _ => none
  else none
/-- The parts of a range that lie in one block each. -/
def partsE : Nat → Nat → Nat → List (List EV)
  | 0, _, _ => []
  | k + 1, p, q => bif Nat.blt p q then
      (match p / 64, Nat.min q (p / 64 * 64 + 64) with
      | b, e => [.agg [.int .i64 (.ofNat b), .int .i64 (.ofNat (p - b * 64)), .int .i64 (.ofNat (e - b * 64))]] :: partsE k e q) else []
def rAll (g : Nat) (l c : List EV) (m : Mem XO) : Option (List (List EV)) :=
  bif Nat.beq g 247 then match l, c with
    | [], [.ptr a 0, .ptr b 0] => match m.cells a, m.cells b with
      | some [.int .i64 (.ofNat x)], some [.int .i64 (.ofNat y)] => some (partsE 80 x y)
      | _, _ => none
    | [], [.int .i64 (.ofNat x), .int .i64 (.ofNat y)] => some (partsE 80 x y)
    | _, _ => none
  else none
/-- Known functions, one table after the other. -/
def orK (k1 k2 : Caller XO) : Caller XO := fun f args m => match k1 f args m with
  | some r => some r
  | none => k2 f args m
def kAll : Caller XO := orK kCodec (orK kView kIns)
/-- inode.Write of a short string at the start of a file whose first block is absent, made of the calls that it makes. -/
def kWrite (call : Caller XO) (f : Nat) (args : List EV) (m : Mem XO) : Option (EV × Mem XO) :=
  bif Nat.beq f 72 then match args with
    | [.ptr v 0, .agg b, .int .i64 (.ofNat 0), .str s] => bif Nat.blt 0 s.len && Nat.blt s.len 64 then
      match call 155 [.ptr v 0, .agg b] m with
      | some (.tup [.agg n, .int .i64 (.ofNat 0)], m1) => match n.drop 4 with
        | .int .i64 z :: _ => bif ltF z (.ofNat s.len) then
          match call 159 [.agg b, .int .i64 (.ofNat 0)] m1 with
          | some (.agg nm, m2) => match call 101 [.ptr v 0, .agg nm] m2 with
            | some (.tup [.str ⟨0, _⟩, .bool _], m3) => match call 159 [.agg b, .int .i64 (.ofNat 0)] m3 with
              | some (.agg nm', m4) => match call 93 [.ptr v 0, .agg nm', .str (s.cat ⟨64 - s.len, 0⟩)] m4 with
                | some (.int .i64 (.ofNat 0), m5) => match call 160 [.ptr v 0, .agg b, .agg n, .int .i64 (.ofNat s.len)] m5 with
                  | some (.int .i64 (.ofNat 0), m6) => some (.tup [.int .i64 (.ofNat s.len), okE], m6)
                  | _ => none
                | _ => none
              | _ => none
            | _ => none
          | _ => none
          else none
        | _ => none
      | _ => none
      else none
    | _ => none
  else none
end Ev
end Go.Proofs.YtmpokappjogehaaGreatDoor

namespace Go.Proofs.YtmpokappjogehaaGreatDoor
open Go.RowKit

theorem NameV.ext' {a b : NameV} (h1 : a.kind = b.kind) (h2 : a.owner = b.owner) (h3 : a.number = b.number) (h4 : a.index = b.index) (h5 : a.text = b.text) : a = b := by
  cases a; cases b; simp_all
instance : DecidableEq NameV := fun a b =>
  decidable_of_iff (a.kind = b.kind ∧ a.owner = b.owner ∧ a.number = b.number ∧ a.index = b.index ∧ a.text = b.text)
    ⟨fun h => NameV.ext' h.1 h.2.1 h.2.2.1 h.2.2.2.1 h.2.2.2.2, fun h => by subst h; exact ⟨rfl, rfl, rfl, rfl, rfl⟩⟩
theorem NameV.val_inj {a b : NameV} (h : a.val = b.val) : a = b := by
  unfold NameV.val NameV.cells at h
  simp only [Value.agg.injEq, Array.mk.injEq, List.cons.injEq, Value.int.injEq, Value.string.injEq, true_and, and_true] at h
  exact NameV.ext' h.1 h.2.1 h.2.2.1 h.2.2.2.1 h.2.2.2.2
set_option maxRecDepth 100000 in
theorem equal_name (a b : NameV) (w : World) : (Op.equal 144 a.val b.val).run Tryz.prog w = .ok (decide (a = b)) w := by
  by_cases h : a = b
  · subst h
    rw [decide_eq_true rfl]
    obtain ⟨k, o, n, i, t⟩ := a
    simp only [NameV.cells, NameV.val]
    show (Op.equalIn 10000 _ _ _).run _ _ = _
    go_simp
  · rw [decide_eq_false h]
    obtain ⟨k, o, n, i, t⟩ := a
    obtain ⟨k', o', n', i', t'⟩ := b
    simp only [NameV.cells, NameV.val]
    show (Op.equalIn 10000 _ _ _).run _ _ = _
    go_simp
    intro h1 h2 h3 h4 h5
    exact h (by rw [h1, toList_inj h2, h3, h4, toList_inj h5])
theorem checkKey_name (e : Bool) (n : NameV) (w : World) : (Instr.checkKey e 10000 144 n.val).run Tryz.prog w = .ok () w := by
  obtain ⟨k, o, n, i, t⟩ := n
  kernel_rfl

/-! ### The entries -/
abbrev NL := List (NameV × Value)
def findL : NL → NameV → Option Value
  | [], _ => none
  | (m, v) :: l, n => if m = n then some v else findL l n
def putL : NL → NameV → Value → NL
  | [], n, v => [(n, v)]
  | (m, x) :: l, n, v => if m = n then (m, v) :: l else (m, x) :: putL l n v
theorem findL_put (l : NL) (n m : NameV) (v : Value) : findL (putL l n v) m = if n = m then some v else findL l m := by
  induction l with
  | nil => simp [putL, findL]
  | cons p l ih =>
    obtain ⟨k, x⟩ := p
    unfold putL
    by_cases h : k = n
    · subst h
      rw [if_pos rfl]
      unfold findL
      by_cases h2 : k = m <;> simp [h2]
    · rw [if_neg h]
      unfold findL
      by_cases h2 : k = m
      · subst h2
        rw [if_pos rfl, if_pos rfl, if_neg (fun e => h e.symm)]
      · rw [if_neg h2, if_neg h2, ih]
/-- Block b is a map whose entries are l. -/
def MapL (w : World) (b : Nat) (l : NL) : Prop :=
  ∃ es clock, w.heap[b]? = some (.map es clock) ∧ es.toList.map (fun e => (e.key, e.val)) = l.map (fun p => (p.1.val, p.2))
theorem MapL.fr {w w' : World} {T : Nat → Prop} {b : Nat} {l : NL} (h : MapL w b l) (hf : Fr T w w') (hb : ¬ T b) : MapL w' b l := by
  obtain ⟨es, clock, h1, h2⟩ := h
  exact ⟨es, clock, (hf.block b (Array.getElem?_eq_some_iff.1 h1).1 hb).trans h1, h2⟩
theorem MapL.lt {w : World} {b : Nat} {l : NL} (h : MapL w b l) : b < w.heap.size := by
  obtain ⟨es, clock, h1, _⟩ := h
  exact (Array.getElem?_eq_some_iff.1 h1).1
theorem MapL.not_cells {w : World} {b : Nat} {l : NL} (h : MapL w b l) {t : TypeId} {cs : Array Value} : ¬ Blk w b t cs := by
  obtain ⟨es, clock, h1, _⟩ := h
  intro hb
  have hb' : w.heap[b]? = some (.cells cs t) := hb
  rw [h1] at hb'
  cases hb'
theorem find_names (n : NameV) (w : World) : ∀ (es : List MapEntry) (l : NL) (k : Nat), es.map (fun e => (e.key, e.val)) = l.map (fun p => (p.1.val, p.2)) →
    ∃ r, (Instr.findAsking 144 n.val es k).run Tryz.prog w = .ok r w ∧ r.map (·.2) = findL l n ∧
      (∀ j v, r = some (j, v) → k ≤ j ∧ (∃ e, es[j - k]? = some e ∧ e.key = n.val) ∧ ∀ u, (es.modify (j - k) (fun e => { e with key := n.val, val := u })).map (fun e => (e.key, e.val)) = (putL l n u).map (fun p => (p.1.val, p.2))) ∧
      (r = none → ∀ u, (putL l n u) = l ++ [(n, u)])
  | [], l, k, h => by
    cases l with
    | nil => exact ⟨none, by simp [Instr.findAsking], rfl, fun _ _ h => (by cases h), fun _ _ => rfl⟩
    | cons p l => simp at h
  | e :: es, l, k, h => by
    cases l with
    | nil => simp at h
    | cons p l =>
      obtain ⟨m, x⟩ := p
      simp only [List.map_cons, List.cons.injEq, Prod.mk.injEq] at h
      obtain ⟨⟨hk, hx⟩, hr⟩ := h
      by_cases hm : m = n
      · subst hm
        refine ⟨some (k, e.val), ?_, ?_, fun j v hj => ?_, fun h => by cases h⟩
        · simp only [Instr.findAsking, Sem.run_bind, hk, equal_name, Result.andThen_ok, decide_true, if_true, Sem.run_pure]
        · simp [findL, hx]
        · injection hj with hj
          injection hj with hj _
          subst hj
          refine ⟨Nat.le_refl _, ⟨e, by simp, hk⟩, fun u => ?_⟩
          simp [putL, hr]
      · obtain ⟨r, r1, r2, r3, r4⟩ := find_names n w es l (k + 1) hr
        refine ⟨r, ?_, ?_, fun j v hj => ?_, fun hn u => ?_⟩
        · simp only [Instr.findAsking, Sem.run_bind, hk, equal_name, Result.andThen_ok, decide_eq_false (fun e => hm e.symm : ¬ n = m), Bool.false_eq_true, if_false]
          exact r1
        · rw [r2, findL, if_neg hm]
        · obtain ⟨q1, ⟨e', q2, q3⟩, q4⟩ := r3 j v hj
          have ej : j - k = (j - (k + 1)) + 1 := by omega
          refine ⟨by omega, ⟨e', by rw [ej]; exact q2, q3⟩, fun u => ?_⟩
          rw [ej, List.modify_succ_cons, putL, if_neg hm, List.map_cons, List.map_cons, q4 u, hk, hx]
        · rw [putL, if_neg hm, r4 hn u]
          rfl
end Go.Proofs.YtmpokappjogehaaGreatDoor

namespace Go.Proofs.YtmpokappjogehaaGreatDoor
open Go.RowKit

theorem ba_refl (a : ByteArray) : (a == a) = true := by
  show (a.data == a.data) = true
  exact beq_self_eq_true _
theorem same_name (n : NameV) : Instr.sameBits 10000 n.val n.val = true := by
  obtain ⟨k, o, a, i, t⟩ := n
  show Instr.sameBits (9999 + 1) _ _ = true
  simp [Instr.sameBits, NameV.val, NameV.cells]
  exact ⟨ba_refl _, ba_refl _⟩
theorem und_name : ∃ fs, Tryz.prog.underlying 144 = some (.struct fs) := ⟨_, Tryz.underlying144⟩
theorem findKey_name (k : Value) (es : List MapEntry) (w : World) (r : Option (Nat × Value)) (h : (Instr.findAsking 144 k es 0).run Tryz.prog w = .ok r w) : (Instr.findKey 144 k es).run Tryz.prog w = .ok r w := by
  obtain ⟨fs, hu⟩ := und_name
  unfold Instr.findKey
  simp only [Sem.run_bind, run_underlying hu, Result.andThen_ok]
  cases es with
  | nil =>
    simp only [Instr.findAsking, Sem.run_pure] at h
    simpa [Instr.findNow] using h
  | cons e es =>
    simp only [Instr.findNow, Instr.sameNow]
    exact h
theorem run_lookup_name {mt el : TypeId} (hm : Tryz.prog.underlying mt = some (.map 144 el)) {z : Value} (hz : ∀ w, (zeroValue el).run Tryz.prog w = .ok z w) {w : World} {b : Nat} {l : NL} (h : MapL w b l) (n : NameV) :
    (Instr.lookup mt (.map (some b)) n.val true).run Tryz.prog w = .ok (.tuple #[(findL l n).getD z, .bool (findL l n).isSome]) w := by
  obtain ⟨es, clock, h1, h2⟩ := h
  obtain ⟨r, r1, r2, _⟩ := find_names n w es.toList l 0 h2
  unfold Instr.lookup
  simp only [Sem.run_bind, run_underlying hm, Result.andThen_ok, MapKept.run_getObj_map h1, Sem.run_pure, checkKey_name, findKey_name _ _ _ _ r1]
  rw [← r2]
  cases r with
  | none => simp [Sem.run_bind, hz]
  | some p => simp
theorem run_update_name {mt el : TypeId} (hm : Tryz.prog.underlying mt = some (.map 144 el)) {w : World} {b : Nat} {l : NL} (h : MapL w b l) (n : NameV) (v : Value) :
    ∃ w', (Instr.mapUpdate mt (.map (some b)) n.val v).run Tryz.prog w = .ok () w' ∧ MapL w' b (putL l n v) ∧ Fr (fun k => k = b) w w' := by
  obtain ⟨es, clock, h1, h2⟩ := h
  have hb := (Array.getElem?_eq_some_iff.1 h1).1
  obtain ⟨r, r1, r2, r3, r4⟩ := find_names n w es.toList l 0 h2
  cases r with
  | none =>
    refine ⟨w.putObj b (.map (es.push { key := n.val, val := v, born := clock }) (clock + 1)), ?_, ⟨es.push { key := n.val, val := v, born := clock }, clock + 1, ?_, ?_⟩, ?_⟩
    · unfold Instr.mapUpdate
      simp only [Sem.run_bind, run_underlying hm, Result.andThen_ok, MapKept.run_getObj_map h1, checkKey_name, findKey_name _ _ _ _ r1, MapKept.run_setObj_map _ h1]
      rfl
    · show (w.heap.setIfInBounds b _)[b]? = _
      rw [Array.getElem?_setIfInBounds_self_of_lt hb]
    · rw [r4 rfl v, Array.toList_push, List.map_append, h2, List.map_append]
      rfl
    · exact (Fr.grown (grownBy_putObj' w b _)).mono (fun k _ hk => by simpa using hk)
  | some p =>
    obtain ⟨j, u⟩ := p
    obtain ⟨_, ⟨e, q2, q3⟩, q4⟩ := r3 j u rfl
    rw [Nat.sub_zero] at q2 q4
    have q5 : es[j]? = some e := by rw [← Array.getElem?_toList]; exact q2
    refine ⟨w.putObj b (.map (es.modify j fun e => { e with key := n.val, val := v }) clock), ?_, ⟨es.modify j fun e => { e with key := n.val, val := v }, clock, ?_, ?_⟩, ?_⟩
    · unfold Instr.mapUpdate
      simp only [Sem.run_bind, run_underlying hm, Result.andThen_ok, MapKept.run_getObj_map h1, checkKey_name, findKey_name _ _ _ _ r1, q5, Option.map_some, Option.getD_some, q3, Instr.keyThatStays, same_name, if_true, Sem.run_pure, MapKept.run_setObj_map _ h1]
      rfl
    · show (w.heap.setIfInBounds b _)[b]? = _
      rw [Array.getElem?_setIfInBounds_self_of_lt hb]
    · rw [Array.toList_modify]
      exact q4 v
    · exact (Fr.grown (grownBy_putObj' w b _)).mono (fun k _ hk => by simpa using hk)

structure NewMapN (w w' : World) : Prop where
  map : MapL w' w.heap.size []
  fr : Fr Nothing w w'
  size : w'.heap.size = w.heap.size + 1
theorem wp_makeMapN {P : Program} {o : Oper} {a : Act} {w : World} {K : Act → World → Prop} {Q : Exit → Act → World → Prop} (t : TypeId) (ho : o.op = .makeMap t none)
    (h : ∀ w', NewMapN w w' → K (a.put o.dst (.map (some w.heap.size))) w') : o.wp P a w K Q := by
  have mk : (Instr.makeMap t none).run P w = .ok (.map (some w.heap.size)) (w.alloc (.map #[] 0)) := by simp [Instr.makeMap]
  unfold Oper.wp execOp
  simp only [ho, Option.map_none, Sem.run_bind, mk, Sem.run_pure, Result.andThen_ok]
  exact h _ ⟨⟨#[], 0, heap_alloc_new w _, rfl⟩, (Fr.refl _ _).alloc _, by simp⟩
theorem wp_lookupN {o : Oper} {a : Act} {w : World} {K : Act → World → Prop} {Q : Exit → Act → World → Prop} {mt el : TypeId} (hm : Tryz.prog.underlying mt = some (.map 144 el)) {z : Value} (hz : ∀ w, (zeroValue el).run Tryz.prog w = .ok z w)
    (m x : Operand) (ho : o.op = .lookup mt m x true) {b : Nat} {n : NameV} (hm' : a.eval m = .map (some b)) (hx : a.eval x = n.val) {l : NL} (hl : MapL w b l)
    (h : K (a.put o.dst (.tuple #[(findL l n).getD z, .bool (findL l n).isSome])) w) : o.wp Tryz.prog a w K Q := by
  unfold Oper.wp execOp
  simp only [ho, hm', hx, Sem.run_bind, run_lookup_name hm hz hl n, Result.andThen_ok]
  exact h
theorem wp_updateN {o : Oper} {a : Act} {w : World} {K : Act → World → Prop} {Q : Exit → Act → World → Prop} {mt el : TypeId} (hm : Tryz.prog.underlying mt = some (.map 144 el))
    (m k x : Operand) (ho : o.op = .mapUpdate mt m k x) {b : Nat} {n : NameV} {v : Value} (hm' : a.eval m = .map (some b)) (hk : a.eval k = n.val) (hx : a.eval x = v) {l : NL} (hl : MapL w b l)
    (h : ∀ w', MapL w' b (putL l n v) → Fr (fun k => k = b) w w' → K (a.put o.dst undef) w') : o.wp Tryz.prog a w K Q := by
  obtain ⟨w', hrun, hP, hf⟩ := run_update_name hm hl n v
  unfold Oper.wp execOp
  simp only [ho, hm', hk, hx, Sem.run_bind, hrun, Sem.run_pure, Result.andThen_ok]
  exact h w' hP hf
theorem wpList_updateN {ops : Array Oper} {rest : List Oper} {o : Oper} {a : Act} {w : World} {Q : Exit → Act → World → Prop} (hgd : o.guard = none) {mt el : TypeId} (hm : Tryz.prog.underlying mt = some (.map 144 el))
    (m k x : Operand) (ho : o.op = .mapUpdate mt m k x) {b : Nat} {n : NameV} {v : Value} (hm' : a.eval m = .map (some b)) (hk : a.eval k = n.val) (hx : a.eval x = v) {l : NL} (hl : MapL w b l)
    (h : ∀ w', MapL w' b (putL l n v) → Fr (fun k => k = b) w w' → wpList Tryz.prog ops Q rest (a.put o.dst undef) w') : wpList Tryz.prog ops Q (o :: rest) a w :=
  wpList_plain hgd fun _ hK => wp_updateN hm m k x ho hm' hk hx hl fun w' h1 h2 => hK _ _ (h w' h1 h2)
theorem und_reads : Tryz.prog.underlying 100 = some (.map 144 238) := Tryz.underlying100
theorem und_last : Tryz.prog.underlying 101 = some (.map 144 3) := Tryz.underlying101
end Go.Proofs.YtmpokappjogehaaGreatDoor

namespace Go.Proofs.YtmpokappjogehaaGreatDoor
open Go.RowKit

/-! ### Plain: the last call of a name -/
def idxF (n : NameV) : List CV → Nat → Option Nat → Option Nat
  | [], _, r => r
  | c :: l, k, r => idxF n l (k + 1) (if c.nm = n then some k else r)
def idxL (L : List CV) (n : NameV) : Option Nat := idxF n L 0 none
def lastC (L : List CV) (n : NameV) : Option CV := (idxL L n).bind fun i => L[i]?
theorem idxF_snoc (n : NameV) (c : CV) : ∀ (L : List CV) (k : Nat) (r : Option Nat), idxF n (L ++ [c]) k r = if c.nm = n then some (k + L.length) else idxF n L k r
  | [], k, r => by simp [idxF]
  | d :: L, k, r => by
    rw [List.cons_append, idxF, idxF_snoc n c L (k + 1), idxF, List.length_cons]
    congr 2
    omega
theorem idxL_snoc (L : List CV) (c : CV) (n : NameV) : idxL (L ++ [c]) n = if c.nm = n then some L.length else idxL L n := by
  unfold idxL
  rw [idxF_snoc, Nat.zero_add]
theorem idxF_in (n : NameV) : ∀ (L : List CV) (k : Nat) (r : Option Nat) (i : Nat), idxF n L k r = some i → r = some i ∨ (k ≤ i ∧ ∃ c, L[i - k]? = some c ∧ c.nm = n)
  | [], k, r, i, h => .inl h
  | d :: L, k, r, i, h => by
    rcases idxF_in n L (k + 1) _ i h with h1 | ⟨h1, c, h2, h3⟩
    · by_cases hd : d.nm = n
      · rw [if_pos hd] at h1
        injection h1 with h1
        subst h1
        exact .inr ⟨Nat.le_refl _, d, by simp, hd⟩
      · rw [if_neg hd] at h1
        exact .inl h1
    · refine .inr ⟨by omega, c, ?_, h3⟩
      rw [show i - k = (i - (k + 1)) + 1 by omega]
      exact h2
theorem idxL_in {L : List CV} {n : NameV} {i : Nat} (h : idxL L n = some i) : ∃ c, L[i]? = some c ∧ c.nm = n := by
  rcases idxF_in n L 0 none i h with h1 | ⟨_, c, h2, h3⟩
  · cases h1
  · exact ⟨c, h2, h3⟩
theorem lastC_snoc (L : List CV) (c : CV) (n : NameV) : lastC (L ++ [c]) n = if c.nm = n then some c else lastC L n := by
  unfold lastC
  rw [idxL_snoc]
  by_cases h : c.nm = n
  · rw [if_pos h, if_pos h, Option.bind_some, List.getElem?_append_right (Nat.le_refl _), Nat.sub_self]
    rfl
  · rw [if_neg h, if_neg h]
    cases hi : idxL L n with
    | none => rfl
    | some i =>
      obtain ⟨d, h1, _⟩ := idxL_in hi
      rw [Option.bind_some, Option.bind_some, List.getElem?_append_left (List.getElem?_eq_some_iff.1 h1).1]
def valL (L : List CV) (n : NameV) : ByteArray := match lastC L n with | some c => c.value | none => ByteArray.empty
def hasL (L : List CV) (n : NameV) : Bool := match lastC L n with | some c => !c.absent | none => false

/-! ### The view's blocks -/
def VB (w : World) (v : Nat) (k : Nat) : Prop :=
  k = v ∨ ∃ cs : Array Value, Blk w v 104 cs ∧ (cs[1]? = some (.map (some k)) ∨ (∃ u, cs[2]? = some u ∧ u.ownBlock = some k) ∨ cs[3]? = some (.map (some k)))
/-- The state below. -/
def VBase (w : World) (v s : Nat) : Prop := ∃ cs : Array Value, Blk w v 104 cs ∧ cs[0]? = some (.pointer (some ⟨s, 0, none⟩))
structure VStep (v : Nat) (w w' : World) : Prop where
  fr : Fr (VB w v) w w'
  lies : ∀ k, VB w' v k → VB w v k ∨ w.heap.size ≤ k
  base : ∀ s, VBase w v s → VBase w' v s
theorem VStep.trans {v : Nat} {w w1 w2 : World} (h : VStep v w w1) (k : VStep v w1 w2) : VStep v w w2 :=
  ⟨h.fr.then_ k.fr (fun i _ hr => by
      rcases h.lies i hr with h1 | h1
      · exact h1
      · omega), fun i hi => by
    rcases k.lies i hi with h1 | h1
    · exact h.lies i h1
    · exact .inr (Nat.le_trans h.fr.size h1), fun s hs => k.base s (h.base s hs)⟩
theorem VStep.far {v : Nat} {w w' : World} {g : Nat} (h : VStep v w w') (hg : g < w.heap.size) (hn : ¬ VB w v g) : ¬ VB w' v g := fun hv => by
  rcases h.lies g hv with h1 | h1
  · exact hn h1
  · omega
theorem VStep.blk {v : Nat} {w w' : World} {g : Nat} {t : TypeId} {cs : Array Value} (h : VStep v w w') (hb : Blk w g t cs) (hn : ¬ VB w v g) : Blk w' g t cs := hb.fr h.fr hn
theorem VStep.of_fr0 {v : Nat} {w w' : World} (hv : v < w.heap.size) (h : Fr Nothing w w') : VStep v w w' :=
  ⟨h.mono (fun _ _ hk => hk.elim), fun k hk => by
    have e := h.block v hv (fun x => x)
    rcases hk with hk | ⟨cs, hb, hc⟩
    · exact .inl (.inl hk)
    · refine .inl (.inr ⟨cs, ?_, hc⟩)
      have hb' : w'.heap[v]? = _ := hb
      show w.heap[v]? = _
      rw [← e]; exact hb', fun s ⟨cs, hb, hc⟩ => ⟨cs, (h.block v hv (fun x => x)).trans hb, hc⟩⟩

/-- Block v is a view over the empty state; the calls so far are L. -/
structure ViewD (w : World) (v : Nat) (L : List CV) (s mr ml : Nat) (cv : Value) (rl ll : NL) : Prop where
  blk : Blk w v 104 #[.pointer (some ⟨s, 0, none⟩), .map (some mr), cv, .map (some ml)]
  base : StH w s .leaf
  reads : MapL w mr rl
  last : MapL w ml ll
  calls : w.ownsRow 0 238 7 cv L.length (L.flatMap CV.cells)
  idx : ∀ n, findL ll n = (idxL L n).map fun (i : Nat) => Value.int .i64 (i : Int)
  apart : mr ≠ ml
def ViewC (w : World) (v : Nat) (L : List CV) : Prop := ∃ s mr ml cv rl ll, ViewD w v L s mr ml cv rl ll
end Go.Proofs.YtmpokappjogehaaGreatDoor

namespace Go.Proofs.YtmpokappjogehaaGreatDoor
open Go.RowKit

/-- Every operation behind n waits for one from n on. -/
def connB (md : Region.Mode) (ops : Array Oper) (n : Nat) : Bool :=
  (List.range ops.size).all fun t => decide (t ≤ n) || (List.range t).any fun j => decide (n ≤ j) && Region.waitsFor md ops t j
/-- n waits, by steps below n + 1, for each from k on. -/
def sinkF (md : Region.Mode) (ops : Array Oper) (k n : Nat) : Bool :=
  (List.range n).all fun i => decide (i < k) || (List.range (n + 1)).any fun j => decide (i < j) && Region.waitsFor md ops j i

section
variable {P : Program} {ops : Array Oper} {md : Region.Mode} {w : World}

theorem mark_waits {k n : Nat} {listed : Array Bool} (hs : sinkF md ops k n = true) (hc : connB md ops n = true) (inv : HeadInv md ops n listed) :
    ∀ (d i : Nat), n - i = d → i < n → k ≤ i → listed.getD i true = false → ∀ t, n ≤ t → t ∉ Region.ready md ops listed := by
  intro d
  induction d using Nat.strongRecOn with
  | _ d ih =>
    intro i hd hi hki hun t ht hr
    obtain ⟨_, ot, hot, hall⟩ := mem_ready.1 hr
    have htlt : t < ops.size := (Array.getElem?_eq_some_iff.1 hot).1
    by_cases htn : t = n
    · subst htn
      have h1 := List.all_eq_true.1 hs i (List.mem_range.2 hi)
      simp only [Bool.or_eq_true, decide_eq_true_eq] at h1
      have h1 := h1.resolve_left (by omega)
      obtain ⟨j, hj, hj2⟩ := List.any_eq_true.1 h1
      simp only [Bool.and_eq_true, decide_eq_true_eq] at hj2
      obtain ⟨oj, hoj, e, he, hb, hon⟩ := Region.waitsFor_spec hj2.2
      have hjle : j ≤ t := by have := List.mem_range.1 hj; omega
      by_cases hjt : j = t
      · subst hjt
        obtain rfl : oj = ot := Option.some.inj (hoj.symm.trans hot)
        have h2 := hall e he hb
        rw [hon, getD_both hun] at h2
        cases h2
      · cases hl : listed.getD j false with
        | true =>
          have h2 := inv.closed j oj hoj hl e he hb
          rw [hon, getD_both hun] at h2
          cases h2
        | false => exact ih (t - j) (by omega) j rfl (by omega) (by omega) (getD_in (by rw [inv.size]; omega) hl) t (Nat.le_refl _) hr
    · have h1 := List.all_eq_true.1 hc t (List.mem_range.2 htlt)
      simp only [Bool.or_eq_true, decide_eq_true_eq] at h1
      have h1 := h1.resolve_left (by omega)
      obtain ⟨j, hj, hj2⟩ := List.any_eq_true.1 h1
      simp only [Bool.and_eq_true, decide_eq_true_eq] at hj2
      obtain ⟨o', ho', e, he, hb, hon⟩ := Region.waitsFor_spec hj2.2
      obtain rfl : o' = ot := Option.some.inj (ho'.symm.trans hot)
      have h2 := hall e he hb
      have hjt : j < t := List.mem_range.1 hj
      rw [hon, getD_both (inv.tail j hj2.1 (by omega))] at h2
      cases h2

/-- All below k are done. -/
def Below (k : Nat) (listed : Array Bool) : Prop := ∀ i, i < k → listed.getD i true = true
theorem Below.set {k i : Nat} {listed : Array Bool} (h : Below k listed) : Below k (listed.setIfInBounds i true) := fun j hj => by
  by_cases hij : i = j
  · subst hij
    have := h i hj
    rcases Nat.lt_or_ge i listed.size with h' | h'
    · simp [h']
    · simp [Array.getElem?_eq_none, h']
  · rw [getD_set_ne true hij]
    exact h j hj

theorem mark_first {k n i : Nat} {oi : Oper} {v : Value} {L : Array Bool → Act → Prop} (hi : ops[i]? = some oi) (hsel : ∀ (j : Nat) (o : Oper) cs b, ops[j]? = some o → o.op ≠ .select cs b)
    (hs : sinkF md ops k n = true) (hc : connB md ops n = true) (hin : i < n) (hki : k ≤ i)
    (hdone : ∀ listed a, L listed a → ∀ j ∈ Region.ready md ops listed, n ≤ j) :
    ∀ (f : Nat) (listed : Array Bool) (a : Act), HeadInv md ops n listed →
      (∀ j oj, ops[j]? = some oj → j ≠ i → listed.getD j true = false → (∀ e ∈ oj.after, Region.binds md e = true → e.on ≠ i) → oi.apart ops oj = true) →
      i ∈ Region.ready md ops listed → YieldsAt P ops w oi v a →
      wpAnyL P md ops w n L f (listed.setIfInBounds i true) (a.put oi.dst v) → wpAnyL P md ops w n L (f + 1) listed a := by
  intro f
  induction f with
  | zero =>
    intro listed a inv _ hr hy H
    have hun := (mem_ready.1 hr).1
    refine ⟨fun h => (by rw [h] at hr; cases hr), fun j hj => ?_⟩
    have hjn : j < n := by
      rcases Nat.lt_or_ge j n with h | h
      · exact h
      · exact absurd hj (mark_waits hs hc inv _ i rfl hin hki hun j h)
    refine ⟨hjn, ?_⟩
    by_cases hji : j = i
    · subst hji; exact hy.stOp hi H
    · have := hdone _ _ H j (ready_mono hj hji)
      omega
  | succ f ih =>
    intro listed a inv hfree hr hy H
    have hun := (mem_ready.1 hr).1
    refine ⟨fun h => (by rw [h] at hr; cases hr), fun j hj => ?_⟩
    have hjn : j < n := by
      rcases Nat.lt_or_ge j n with h | h
      · exact h
      · exact absurd hj (mark_waits hs hc inv _ i rfl hin hki hun j h)
    refine ⟨hjn, ?_⟩
    by_cases hji : j = i
    · subst hji; exact hy.stOp hi H
    · have h1 := (H.2 j (ready_mono hj hji)).2
      obtain ⟨hjun, oj, hoj, hall⟩ := mem_ready.1 hj
      have hnot : ∀ e ∈ oj.after, Region.binds md e = true → e.on ≠ i := fun e he hb heq => by
        have h1 := hall e he hb
        rw [heq, getD_both hun] at h1
        cases h1
      have h2 := stOp_put hoj (hfree j oj hoj hji hjun hnot) (fun cs b => hsel i oi cs b hi) (fun cs b => hsel j oj cs b hoj) hy h1
      refine stOp_mono (fun a' h3 => ih (listed.setIfInBounds j true) a' (inv.set hj hjn) (fun m om hm hmi hun' hno => hfree m om hm hmi ?_ hno) (ready_mono hr (Ne.symm hji)) h3.1 ?_) h2
      · by_cases hjm : j = m
        · subst hjm; exact hjun
        · rw [getD_set_ne true hjm] at hun'; exact hun'
      · rw [Array.setIfInBounds_comm _ _ hji]
        exact h3.2

/-- From k on, f operations may be taken in the text's order; then n alone is ready, and what follows behind it may be taken so, too. -/
def midHead (md : Region.Mode) (ops : Array Oper) (g : Nat) : Nat → Nat → Array Bool → Bool
  | 0, k, listed => decide (Region.ready md ops listed = [k]) && Region.lexFrom md ops g (k + 1) (listed.setIfInBounds k true)
  | f + 1, k, listed => (Region.ready md ops listed).contains k && Region.free md ops listed k && midHead md ops g f (k + 1) (listed.setIfInBounds k true)
def MidL (md : Region.Mode) (ops : Array Oper) (g n : Nat) (Lq : Act → Prop) (listed : Array Bool) (a : Act) : Prop :=
  Region.ready md ops listed = [n] ∧ Region.lexFrom md ops g (n + 1) (listed.setIfInBounds n true) = true ∧ Lq a
theorem mid_lex {n g : Nat} {Lq : Act → Prop} (hsel : Region.noSelect ops = true) (hs : sinkF md ops 0 n = true) (hc : connB md ops n = true) :
    ∀ (l : List Oper) (k : Nat) (listed : Array Bool) (a : Act), (∀ j, j < l.length → l[j]? = ops[k + j]?) → k + l.length = n → HeadInv md ops n listed →
    midHead md ops g l.length k listed = true → wpStill P ops w Lq l a →
    wpAnyL P md ops w n (MidL md ops g n Lq) l.length listed a
  | [], k, listed, a, _, hk, _, hB, h => by
    obtain rfl : k = n := by simpa using hk
    simp only [List.length_nil, midHead, Bool.and_eq_true, decide_eq_true_eq] at hB
    exact ⟨hB.1, hB.2, h⟩
  | o :: l, k, listed, a, hl, hk, inv, hB, h => by
    have h0 : ops[k]? = some o := by simpa using (hl 0 (by simp)).symm
    simp only [List.length_cons, midHead, Bool.and_eq_true] at hB
    obtain ⟨⟨hr, hf⟩, hB'⟩ := hB
    have hkn : k < n := by simp only [List.length_cons] at hk; omega
    have hr' : k ∈ Region.ready md ops listed := by simpa using hr
    have hst : stOp P ops w k (wpStill P ops w Lq l) a := by unfold stOp; simp only [h0]; exact h
    obtain ⟨v, hy, hK⟩ := yieldsAt_of_stOp h0 hst
    exact mark_first h0 (Region.noSelect_spec hsel) hs hc hkn (Nat.zero_le k) (fun listed' a' hL j hj => by rw [hL.1] at hj; simp at hj; omega) l.length listed a inv (Region.free_spec h0 hf) hr' hy
      (mid_lex hsel hs hc l (k + 1) _ _ (fun j hj => by have := hl (j + 1) (by simp; omega); simpa [Nat.add_assoc, Nat.add_comm 1 j] using this) (by simp only [List.length_cons] at hk; omega) (inv.set hr' hkn) hB' hK)
theorem wp_then {o : Oper} {a : Act} {N K : Act → World → Prop} {Q : Exit → Act → World → Prop} (hh : o.wp P a w K (Exit.then N Q)) : o.wp P a w K Q := by
  unfold Oper.wp at *
  generalize (execOp a.eval o).run P w = r at *
  cases r with
  | ok n w' =>
    cases n <;> simp only [Oper.upon] at hh ⊢ <;>
      first
        | exact hh
        | exact Calls.mono hh (fun e w'' he => by cases e <;> exact he)
  | halt x w' => cases x <;> simp only [Oper.upon] at hh ⊢ <;> exact hh
theorem wpOp_then {i : Nat} {a : Act} {N K : Act → World → Prop} {Q : Exit → Act → World → Prop} (hh : wpOp P ops (Exit.then N Q) i K a w) : wpOp P ops Q i K a w := by
  unfold wpOp at *
  split
  · simpa [*] using hh
  · rename_i o ho
    simp only [ho] at hh
    split
    · rename_i hw; simp only [hw, if_true] at hh; exact hh.imp wp_then (fun h => h)
    · rename_i hw; simp only [hw] at hh; exact hh
def midB (md : Region.Mode) (ops : Array Oper) (n : Nat) : Bool :=
  Region.noSelect ops && decide (n < ops.size) && sinkF md ops 0 n && connB md ops n && midHead md ops (ops.size - (n + 1)) n 0 (Array.replicate ops.size false)

/-- ONE MARK, number n: before it and behind it the operations only read. -/
theorem wp_region_mid {id : Nat} {Q : Exit → Act → World → Prop} {a : Act} {w : World} {l : List Oper} (n : Nat) (hm : P.follows .mixedOrders = true) (hB : midB .any l.toArray n = true)
    (h : wpStill P l.toArray { w with drawn := w.drawn + 1 } (fun a' => wpList P l.toArray (Exit.then (fun a2 w2 => wpStill P l.toArray w2 (fun a3 => Q .normal a3 w2) (l.drop (n + 1)) a2) Q) ((l.drop n).take 1) a' { w with drawn := w.drawn + 1 }) (l.take n) a) : (Code.region id l.toArray true).wp P Q a w := by
  simp only [midB, Bool.and_eq_true, decide_eq_true_eq] at hB
  obtain ⟨⟨⟨⟨hsel, hn⟩, hs⟩, hc⟩, hlex⟩ := hB
  have hn' : n < l.length := by simpa using hn
  have htl : (l.take n).length = n := by simp; omega
  have inv0 : HeadInv .any l.toArray n (Array.replicate l.toArray.size false) :=
    ⟨by simp, fun j oj _ hl => (by rw [getD_replicate_false] at hl; cases hl), fun t _ ht => getD_in (by simpa using ht) (getD_replicate_false _ _)⟩
  have H := mid_lex (md := .any) (g := l.toArray.size - (n + 1)) hsel hs hc (l.take n) 0 _ a (fun j hj => by
    have hj' : j < n := by rw [htl] at hj; exact hj
    simp [hj']) (by simpa using htl) inv0 (by rw [htl]; exact hlex) h
  have h0 : l.toArray[n]? = some l[n] := by simp [hn']
  have h1 : (l.drop n).take 1 = [l[n]] := by rw [List.drop_eq_getElem_cons hn']; rfl
  refine wp_region_any hm ?_
  have := wpAny_of_head (Q' := Q) (g := l.toArray.size - (n + 1) + 1) (fun listed a' hL => by
    obtain ⟨hr, hl, hq⟩ := hL
    rw [h1] at hq
    refine ⟨fun h2 => (by rw [hr] at h2; cases h2), fun i hi => ?_⟩
    rw [hr] at hi
    obtain rfl : i = n := by simpa using hi
    have hw : wpOp P l.toArray (Exit.then (fun a2 w2 => wpStill P l.toArray w2 (fun a3 => Q .normal a3 w2) (l.drop (i + 1)) a2) Q) i (wpList P l.toArray (Exit.then (fun a2 w2 => wpStill P l.toArray w2 (fun a3 => Q .normal a3 w2) (l.drop (i + 1)) a2) Q) []) a' { w with drawn := w.drawn + 1 } := by
      unfold wpOp; simp only [h0]; exact hq
    refine wpOp_mono (fun a2 w2 h2 => ?_) (wpOp_then hw)
    have hd : (l.drop (i + 1)).length = l.toArray.size - (i + 1) := by simp
    have h3 : wpStill P l.toArray w2 (fun a3 => Q .normal a3 w2) (l.drop (i + 1)) a2 := h2
    have h4 := wpAnyS_lex (md := .any) hsel (l.drop (i + 1)) (i + 1) (listed.setIfInBounds i true) a2 (fun j => by simp [List.getElem?_drop]) (by rw [hd]; exact hl) h3
    rw [hd] at h4
    exact wpAny_of_still (fun a3 h5 => h5) _ _ _ h4) _ _ _ H
  rw [htl, show n + (l.toArray.size - (n + 1) + 1) = l.toArray.size by omega] at this
  exact this
theorem wp_mid {id : Nat} {Q : Exit → Act → World → Prop} {a : Act} {w : World} {l : List Oper} (n : Nat) (hm : P.follows .mixedOrders = true) (hB : midB .any l.toArray n = true)
    (h : ∀ wd, Fr Nothing w wd → wpStill P l.toArray wd (fun a' => wpList P l.toArray (Exit.then (fun a2 w2 => wpStill P l.toArray w2 (fun a3 => Q .normal a3 w2) (l.drop (n + 1)) a2) Q) ((l.drop n).take 1) a' wd) (l.take n) a) : (Code.region id l.toArray true).wp P Q a w :=
  wp_region_mid n hm hB (h _ (Fr.refl _ _).drew)
theorem wp_pure {id : Nat} {Q : Exit → Act → World → Prop} {a : Act} {w : World} {l : List Oper} (hm : P.follows .mixedOrders = true) (hB : Region.lexB .any l.toArray = true)
    (h : ∀ wd, Fr Nothing w wd → wpStill P l.toArray wd (fun a' => Q .normal a' wd) l a) : (Code.region id l.toArray true).wp P Q a w :=
  wp_region_still_lit hm hB (h _ (Fr.refl _ _).drew)
/-- One operation that only reads: what it yields. -/
theorem still_val {Q : Act → Prop} {a : Act} {o : Oper} {rest : List Oper} (hg : o.guard = none) {v : Value} (hr : (execOp a.eval o).run P w = .ok (.value v) w) (h : wpStill P ops w Q rest (a.put o.dst v)) : wpStill P ops w Q (o :: rest) a := by
  unfold wpStill
  rw [show Region.wanted o (yielded ops a.tmps) = true by unfold Region.wanted; rw [hg], if_pos rfl]
  unfold Oper.still
  rw [hr]
  exact ⟨rfl, h⟩
theorem still_load {Q : Act → Prop} {a : Act} {o : Oper} {rest : List Oper} (hg : o.guard = none) (ty : TypeId) (x : Operand) (ho : o.op = .load ty x)
    (g : Nat) (hx : a.eval x = .pointer (some ⟨g, 0, none⟩)) {cs : List Value} {t : TypeId} (hb : Blk w g t cs.toArray) {d : TypeDesc} (hu : P.underlying ty = some d) (hd : d.isRow = true) (hi : (P.info? ty).map (·.size) = some cs.length)
    (h : wpStill P ops w Q rest (a.put o.dst (.agg cs.toArray))) : wpStill P ops w Q (o :: rest) a := by
  refine still_val hg ?_ h
  unfold execOp
  simp only [ho, hx, Instr.loadAt, Instr.sureAddr, Sem.run_bind, Sem.run_pure, Result.andThen_ok, run_loadVar_add w ⟨g, 0, none⟩ ty cs d (fun j v hv => by rw [Addr.add_mid, Nat.zero_add, hb.cell j, List.getElem?_toArray]; exact hv) hu hd hi]
theorem still_loadc {Q : Act → Prop} {a : Act} {o : Oper} {rest : List Oper} (hg : o.guard = none) (ty : TypeId) (x : Operand) (ho : o.op = .load ty x)
    (ad : Addr) (hx : a.eval x = .pointer (some ad)) (cs : List Value) (hc : ∀ j v, cs[j]? = some v → w.cell? (ad.add j) = some v) {d : TypeDesc} (hu : P.underlying ty = some d) (hd : d.isRow = true) (hi : (P.info? ty).map (·.size) = some cs.length)
    (h : wpStill P ops w Q rest (a.put o.dst (.agg cs.toArray))) : wpStill P ops w Q (o :: rest) a := by
  refine still_val hg ?_ h
  unfold execOp
  simp only [ho, hx, Instr.loadAt, Instr.sureAddr, Sem.run_bind, Sem.run_pure, Result.andThen_ok, run_loadVar_add w ad ty cs d hc hu hd hi]
theorem blk_at {g : Nat} {t : TypeId} {cs : Array Value} (hb : Blk w g t cs) (k : Nat) (xs : List Value) (h : ∀ j v, xs[j]? = some v → cs[k + j]? = some v) : ∀ j v, xs[j]? = some v → w.cell? ((⟨g, k, none⟩ : Addr).add j) = some v := fun j v hv => by
  rw [Addr.add_mid, hb.cell]
  exact h j v hv
end
end Go.Proofs.YtmpokappjogehaaGreatDoor
