/- Steps of the proof of LawPipesLoseNothing: contracts of the functions that the law reaches, for every world that holds what each of them asks. -/
import Derived.Test.YtmpokappjogehaaGreatDoorQBG
set_option linter.unusedVariables false
set_option linter.unusedSimpArgs false
namespace Go.Proofs.YtmpokappjogehaaGreatDoor
open Go.RowKit

theorem zvStr (w : World) : (zeroValue 9).run Tryz.prog w = .ok (.string ByteArray.empty) w := by kernel_rfl
set_option maxRecDepth 100000 in
set_option maxHeartbeats 2000000 in
theorem PReadG (p p' : PipeV) (s : Nat) (n : ByteArray) (code : Int) (hp : okPipe p) (b : BirthV) (v : Nat) (L : List CV) (w : World) (h : ViewC w v L) (hU : UsaT w) (hU0 : ¬ VB w v 0) (hb : okBirth b = true) (hn : okNm (nBirth 11 b) = true) (hs : b.maker.size ≤ 1099511627776) (hL : L.length ≤ 1048576)
    (hv : lastC L (nBirth 11 b) = some ⟨nBirth 11 b, ⟨(encP p).toArray⟩, false⟩)
    (hop : ∀ W g gs gn, Blk W g 148 p.cells.toArray → Blk W gs 3 #[.int .i64 (s : Nat)] → Blk W gn 9 #[.string ByteArray.empty] → g ≠ gn ∧ gs ≠ gn →
      Calls Tryz.prog 133 #[.pointer (some ⟨g, 0, none⟩), .pointer (some ⟨gs, 0, none⟩), .pointer (some ⟨gn, 0, none⟩)] W (fun e W' => e = .returned (.int .i64 code) ∧ Blk W' g 148 p'.cells.toArray ∧ Blk W' gn 9 #[.string n] ∧ Fr (fun k => k = g ∨ k = gn) W W'))
    (hok : code = 0 → okPipe p') :
    Calls Tryz.prog 52 #[.pointer (some ⟨v, 0, none⟩), .agg b.cells.toArray, .int .i64 (p.epoch : Nat), .int .i64 (s : Nat)] w (Ans3 (.tuple #[.string (if code = 0 then n else ByteArray.empty), .int .i64 code]) v (if code = 0 ∧ p ≠ p' then L ++ [⟨nBirth 11 b, ⟨(encP p').toArray⟩, false⟩] else L) w) := by
  obtain ⟨v1, v2⟩ := valL_of hv
  have CC : Hid (∀ w gs gn, ViewC w v L → UsaT w → ¬ VB w v 0 → Blk w gs 3 #[.int .i64 (s : Nat)] → Blk w gn 9 #[.string ByteArray.empty] → Loc w v gs → Loc w v gn → gs ≠ gn → 0 < gn → Calls Tryz.prog 119 #[.pointer (some ⟨v, 0, none⟩), .agg b.cells.toArray, .int .i64 (p.epoch : Nat), .func (.func 133) #[] #[.pointer (some ⟨gs, 0, none⟩), .pointer (some ⟨gn, 0, none⟩)]] w
      (PChanged (fun k => k = gn) (fun W => Blk W gn 9 #[.string n]) p p' b code v L w)) := by
    intro w gs gn h hU hU0 hBs hBn hls hln hne hg0
    refine PChange_any p p' hp b v L w h hU hU0 hb hn hs hL v1 v2 133 #[.pointer (some ⟨gs, 0, none⟩), .pointer (some ⟨gn, 0, none⟩)] code (fun args w => by kernel_rfl) (fun k => k = gn) (fun k e => by have e' : k = gn := e; rw [e']; exact hln) (fun e => by have e' : 0 = gn := e; omega)
      (fun W => Blk W gn 9 #[.string n]) (fun A B hA hf => hA.fr hf (fun e => e.elim hln.far (fun e => absurd hln.lt (Nat.not_lt.2 e)))) ?_ hok
    intro W g hg hf hBg
    refine (hop W g gs gn hBg (hBs.loc hls hf) (hBn.loc hln hf) ⟨by have := hln.lt; omega, hne⟩).mono ?_
    rintro e W' ⟨rfl, h1, h2, h3⟩
    exact ⟨rfl, h1, h3, h2⟩
  have HV := Lib.hid h
  have HU := Lib.hid hU
  have HU0 := Lib.hid hU0
  clear h hU hv v1 v2 hU0 hop hok
  generalize hL2 : (if code = 0 ∧ p ≠ p' then L ++ [⟨nBirth 11 b, ⟨(encP p').toArray⟩, false⟩] else L) = L2 at *
  have HL2 := Lib.hid hL2
  clear hL2
  have FIN : Hid (∀ (e : Ending) (w' : World), e = .returned (.tuple #[.string (if code = 0 then n else ByteArray.empty), .int .i64 code]) → ViewC w' v L2 → VStep v w w' → Ans3 (.tuple #[.string (if code = 0 then n else ByteArray.empty), .int .i64 code]) v L2 w e w') := fun e w' h1 h2 h3 => ⟨h1, h2, h3⟩
  generalize Ans3 (.tuple #[.string (if code = 0 then n else ByteArray.empty), .int .i64 code]) v L2 w = PP at *
  go_enter Tryz.func52, Tryz.ntmps52
  go_wp2_with (refine wpList_boxBlk rfl 48 (.tmp 1) rfl b.cells.toArray rfl ?_)
  intro w1 n1
  have F1 := Lib.hid n1.fr
  have B1 := Lib.hid n1.blk
  clear n1
  have SZ : Hid (w.heap.size ≤ w.heap.size) := Nat.le_refl _
  obtain ⟨gb, hgb⟩ : ∃ gb, gb = w.heap.size := ⟨_, rfl⟩
  rw [← hgb] at B1 ⊢
  clear hgb
  go_wp2_with (refine wpList_boxBlk rfl 3 (.tmp 3) rfl #[.int .i64 (s : Nat)] rfl ?_)
  intro w2 n2
  have F2 := Lib.hid (F1.out.trans n2.fr)
  have B2 := Lib.hid (B1.out.fr n2.fr (fun x => x))
  have S2 := Lib.hid n2.blk
  have G2 : Hid (w.heap.size ≤ w1.heap.size) := F1.out.size
  clear n2 B1 F1
  obtain ⟨gs, hgs⟩ : ∃ gs, gs = w1.heap.size := ⟨_, rfl⟩
  rw [← hgs] at S2 G2 ⊢
  clear hgs
  go_wp2_with (refine wpList_allocBlk rfl 9 rfl (.string ByteArray.empty) zvStr #[.string ByteArray.empty] rfl ?_)
  intro w3 n3
  have F3 := Lib.hid (F2.out.trans n3.fr)
  have B3 := Lib.hid (B2.out.fr n3.fr (fun x => x))
  have S3 := Lib.hid (S2.out.fr n3.fr (fun x => x))
  have N3 := Lib.hid n3.blk
  have G3 : Hid (w.heap.size ≤ w2.heap.size ∧ gs ≠ w2.heap.size ∧ gb ≠ w2.heap.size ∧ 0 < w2.heap.size) := ⟨F2.out.size, by have := S2.out.lt; omega, by have := B2.out.lt; omega, by have := S2.out.lt; omega⟩
  clear n3 B2 S2 F2
  obtain ⟨gn, hgn⟩ : ∃ gn, gn = w2.heap.size := ⟨_, rfl⟩
  rw [← hgn] at N3 G3 ⊢
  clear hgn
  go_wp2_with (refine wpList_storeFld rfl 9 (.tmp 10) _ rfl gn 0 (.string ByteArray.empty) rfl rfl rfl (by kernel_rfl) _ _ #[.string ByteArray.empty] N3.out (show 0 < 1 by decide) rfl ?_)
  intro w4 b4 f4
  have N4 := Lib.hid b4
  have F4 : Hid (Fr Nothing w w4) := F3.out.then_ f4 (fun i hi e => by have e' : i = gn := e; have := G3.out.1; omega)
  have B4 := Lib.hid (B3.out.fr f4 (fun e => G3.out.2.2.1 e))
  have S4 := Lib.hid (S3.out.fr f4 (fun e => G3.out.2.1 e))
  clear b4 f4 N3 F3 B3 S3
  have LS : Hid (Loc w4 v gs) := Loc.new HV.out F4.out G2.out S4.out.lt
  have LN : Hid (Loc w4 v gn) := Loc.new HV.out F4.out G3.out.1 N4.out.lt
  go_wp2_with (refine wpList_load_add rfl 48 (.tmp 5) rfl ⟨gb, 0, none⟩ rfl b.cells _ (blk_at B4.out 0 _ (fun j v h => by rw [Nat.zero_add, List.getElem?_toArray]; exact h)) Tryz.underlying48 rfl infoBirth (Held.go ?hk1))
  unfold Held
  go_wp2_with fail
  refine (CC.out w4 gs gn (HV.out.fr0 F4.out) (HU.out.fr0 F4.out) (HV.out.novb F4.out HU.out HU0.out) S4.out N4.out LS.out LN.out G3.out.2.1 G3.out.2.2.2).mono ?_
  rintro e w5 ⟨rfl, V5, T5, R5⟩
  have HV5 : Hid (ViewC w5 v L2) := by rw [← HL2.out]; exact V5
  have S5 : Hid (VStep v w w5) := VSt.own HV.out F4.out T5 (fun k e => by have e' : k = gn := e; rw [e']; exact G3.out.1)
  have c5 : w5.cell? ⟨gn, 0, none⟩ = some (.string n) := R5.cell 0
  clear V5 T5 R5 CC HL2 N4 F4 B4 S4 LS LN
  by_cases hc : code = 0
  · subst hc
    have HQ := Lib.hid (FIN.out _ w5 rfl HV5.out S5.out)
    clear FIN
    rw [if_pos rfl] at HQ
    go_wp2
    first | exact HQ.out | (go_ret2; exact HQ.out)
  · have t0 : (code != 0) = true := by simpa using hc
    have HQ := Lib.hid (FIN.out _ w5 rfl HV5.out S5.out)
    clear FIN
    rw [if_neg hc] at HQ
    clear hc
    go_wp2
    first | exact HQ.out | (go_ret2; exact HQ.out)
end Go.Proofs.YtmpokappjogehaaGreatDoor

namespace Go.Proofs.YtmpokappjogehaaGreatDoor
open Go.RowKit

theorem zvChg (w : World) : (zeroValue 238).run Tryz.prog w = .ok (.agg #[.int .i64 0, .string ByteArray.empty, .int .i64 0, .int .i64 0, .string ByteArray.empty, .string ByteArray.empty, .bool false]) w := by kernel_rfl
/-- Between two rounds. -/
structure RbI (w : World) (v s mr gm : Nat) (cv : Value) (rl : NL) (L : List CV) (k : Nat) (wr : World) : Prop where
  blk : Blk wr v 104 #[.pointer (some ⟨s, 0, none⟩), .map (some mr), cv, .map (some gm)]
  base : StH wr s .leaf
  reads : MapL wr mr rl
  calls : wr.ownsRow 0 238 7 cv L.length (L.flatMap CV.cells)
  last : ∃ ll, MapL wr gm ll ∧ ∀ n, findL ll n = (idxL (L.take k) n).map fun (i : Nat) => Value.int .i64 (i : Int)
  fr : Fr (fun b => b = v) w wr
theorem RbI.fr0 {w wr wr' : World} {v s mr gm : Nat} {cv : Value} {rl : NL} {L : List CV} {k : Nat} (h : RbI w v s mr gm cv rl L k wr) (f : Fr Nothing wr wr') : RbI w v s mr gm cv rl L k wr' := by
  obtain ⟨ll, h1, h2⟩ := h.last
  exact ⟨h.blk.fr f (fun x => x), h.base.fr0 f, h.reads.fr f (fun x => x), own_fr h.calls f (fun _ _ x => x), ⟨ll, h1.fr f (fun x => x), h2⟩, h.fr.trans f.weak⟩
theorem RbI.new {w wr wr' : World} {v s mr gm g : Nat} {cv : Value} {rl : NL} {L : List CV} {k : Nat} (h : RbI w v s mr gm cv rl L k wr) (f : Fr (fun b => b = g) wr wr') (hg : w.heap.size ≤ g) (hgm : g ≠ gm) (h1 : v ≠ g) (h2 : s ≠ g) (h3 : mr ≠ g) (h4 : ∀ b, cv.ownBlock = some b → b ≠ g) : RbI w v s mr gm cv rl L k wr' := by
  obtain ⟨ll, q1, q2⟩ := h.last
  obtain ⟨a, b1, b2⟩ := h.base
  exact ⟨h.blk.fr f h1, ⟨a, b1.fr f h2, b2⟩, h.reads.fr f h3, own_fr h.calls f h4, ⟨ll, q1.fr f (fun e => hgm e.symm), q2⟩, h.fr.then_ f (fun i hi e => by have e' : i = g := e; omega)⟩
theorem RbI.lts {w wr : World} {v s mr gm : Nat} {cv : Value} {rl : NL} {L : List CV} {k : Nat} (h : RbI w v s mr gm cv rl L k wr) : v < wr.heap.size ∧ s < wr.heap.size ∧ mr < wr.heap.size ∧ gm < wr.heap.size ∧ ∀ b, cv.ownBlock = some b → b < wr.heap.size := by
  obtain ⟨a, q, _⟩ := h.base
  obtain ⟨ll, q2, _⟩ := h.last
  refine ⟨h.blk.lt, q.lt, h.reads.lt, q2.lt, fun b hb => ?_⟩
  rcases h.calls.2 with ⟨e, _⟩ | ⟨g, c', cur, e, _, h6, _⟩
  · rw [e] at hb; cases hb
  · rw [e] at hb
    simp only [Value.ownBlock, Option.some.injEq] at hb
    subst hb
    exact (Array.getElem?_eq_some_iff.1 h6).1
theorem RbI.step {w wr wr' : World} {v s mr gm : Nat} {cv : Value} {rl : NL} {L : List CV} {k : Nat} {c : CV} {ll : NL} (h : RbI w v s mr gm cv rl L k wr) (hc : L[k]? = some c) (hq : ∀ n, findL ll n = (idxL (L.take k) n).map fun (i : Nat) => Value.int .i64 (i : Int)) (hm : MapL wr' gm (putL ll c.nm (.int .i64 (k : Nat)))) (f : Fr (fun b => b = gm) wr wr')
    (hg : w.heap.size ≤ gm) (h1 : v ≠ gm) (h2 : s ≠ gm) (h3 : mr ≠ gm) (h4 : ∀ b, cv.ownBlock = some b → b ≠ gm) : RbI w v s mr gm cv rl L (k + 1) wr' := by
  obtain ⟨a, b1, b2⟩ := h.base
  refine ⟨h.blk.fr f h1, ⟨a, b1.fr f h2, b2⟩, h.reads.fr f h3, own_fr h.calls f h4, ⟨_, hm, fun n => ?_⟩, h.fr.then_ f (fun i hi e => by have e' : i = gm := e; omega)⟩
  have hk : k < L.length := (List.getElem?_eq_some_iff.1 hc).1
  rw [findL_put, List.take_add_one, hc]
  show _ = (idxL (L.take k ++ [c]) n).map _
  rw [idxL_snoc, List.length_take, Nat.min_eq_left (Nat.le_of_lt hk), hq]
  by_cases e : c.nm = n
  · rw [if_pos e, if_pos e]; rfl
  · rw [if_neg e, if_neg e]
theorem ViewD.vne {w : World} {v s mr ml : Nat} {L : List CV} {cv : Value} {rl ll : NL} (h : ViewD w v L s mr ml cv rl ll) : v ≠ s ∧ v ≠ mr ∧ ∀ b, cv.ownBlock = some b → b ≠ v := by
  obtain ⟨a, q1, _⟩ := h.base
  refine ⟨fun e => ?_, fun e => h.reads.not_cells (e ▸ h.blk), fun b hb e => ?_⟩
  · have h1 : w.heap[v]? = _ := h.blk
    have h2 : w.heap[v]? = _ := e ▸ q1
    rw [h1] at h2
    simp at h2
  · rcases h.calls.2 with ⟨e2, _⟩ | ⟨g, c', cur, e2, _, h6, _⟩
    · rw [e2] at hb; cases hb
    · rw [e2] at hb
      simp only [Value.ownBlock, Option.some.injEq] at hb
      subst hb
      subst e
      have h1 : w.heap[g]? = _ := h.blk
      rw [h6] at h1
      simp at h1
theorem RbI.done {w wr : World} {v s mr gm n : Nat} {cv : Value} {rl : NL} {L : List CV} (h : RbI w v s mr gm cv rl L n wr) (hn : n = L.length) (hne : mr ≠ gm) : ViewC wr v L := by
  obtain ⟨ll, h1, h2⟩ := h.last
  refine ⟨s, mr, gm, cv, rl, ll, ⟨h.blk, h.base, h.reads, h1, h.calls, fun m => ?_, hne⟩⟩
  rw [h2, hn, List.take_length]
theorem RbI.vstep {w wr : World} {v s mr ml gm n : Nat} {cv : Value} {rl ll : NL} {L : List CV} (h : RbI w v s mr gm cv rl L n wr) (hV : ViewD w v L s mr ml cv rl ll) (hg : w.heap.size ≤ gm) : VStep v w wr := by
  refine ⟨h.fr.mono fun k _ e => .inl e, fun k hk => ?_, fun s' hs => ?_⟩
  · rcases VB.of h.blk hk with e | e | e | e
    · exact .inl (.inl e)
    · exact .inl (.inr ⟨_, hV.blk, .inl (by rw [e]; rfl)⟩)
    · exact .inl (.inr ⟨_, hV.blk, .inr (.inl ⟨_, rfl, e⟩)⟩)
    · injection e with e
      injection e with e
      subst e
      exact .inr hg
  · obtain ⟨cs, hb, hc⟩ := hs
    have h1 : w.heap[v]? = _ := hV.blk
    have h2 : w.heap[v]? = _ := hb
    rw [h1] at h2
    injection h2 with h2
    injection h2 with h2
    subst h2
    exact ⟨_, h.blk, hc⟩
set_option maxRecDepth 100000 in
set_option maxHeartbeats 4000000 in
theorem Rollback_any (v : Nat) (L : List CV) (w : World) (h : ViewC w v L) (hL : L.length ≤ 1048576) :
    Calls Tryz.prog 143 #[.pointer (some ⟨v, 0, none⟩), .int .i64 (L.length : Nat)] w (Ans3 (.int .i64 0) v L w) := by
  obtain ⟨s, mr, ml, cv, rl, ll, h⟩ := h
  obtain ⟨A, m, cap, rfl, hm, hcap⟩ := own_slice h.calls
  obtain rfl : m = L.length := hm
  have HC : Hid (L.length ≤ cap) := hcap
  have HV := Lib.hid h
  have HLT := Lib.hid (show v < w.heap.size from h.blk.lt)
  have HS0 : Hid (s < w.heap.size ∧ mr < w.heap.size ∧ ∀ b, (Value.slice A L.length cap).ownBlock = some b → b < w.heap.size) := ⟨by obtain ⟨a, q, _⟩ := h.base; exact q.lt, h.reads.lt, fun b hb => by
    rcases h.calls.2 with ⟨e, _⟩ | ⟨g, c', cur, e, _, h6, _⟩
    · rw [e] at hb; cases hb
    · rw [e] at hb
      simp only [Value.ownBlock, Option.some.injEq] at hb
      subst hb
      exact (Array.getElem?_eq_some_iff.1 h6).1⟩
  have hc : w.cell? ⟨v, 2, none⟩ = some (.slice A L.length cap) := h.blk.cell 2
  have HLL := Lib.hid hL
  have t0 : decide ((L.length : Int) < 0) = false := decide_eq_false (by omega)
  have t0' : ¬ ((L.length : Int) < 0) := by omega
  have hcap' : (L.length : Int) ≤ (cap : Int) := by have := HC.out; omega
  have t2 : (0 : Int) ≤ (L.length : Int) := by omega
  obtain ⟨n, hn⟩ : ∃ n, n = L.length := ⟨_, rfl⟩
  have HN := Lib.hid hn
  rw [← hn] at hc t0 t0' hcap' t2 hcap HC HS0 HV HLL ⊢
  clear h hL hn
  generalize hP : Ans3 (.int .i64 0) v L w = PP
  have FIN : Hid (∀ e w', e = .returned (.int .i64 0) → ViewC w' v L → VStep v w w' → PP e w') := fun e w' h1 h2 h3 => by rw [← hP]; exact ⟨h1, h2, h3⟩
  clear hP
  go_enter Tryz.func143, Tryz.ntmps143
  go_wp2_with (refine wpList_storeFld rfl 102 (.tmp 30) _ rfl v 2 (.slice A n cap) rfl rfl rfl (by kernel_rfl) _ _ #[.pointer (some ⟨s, 0, none⟩), .map (some mr), .slice A n cap, .map (some ml)] HV.out.blk (show 2 < 4 by decide) rfl ?_)
  intro w1 b1 f1
  have B1 := Lib.hid b1
  have F1 := Lib.hid f1
  clear b1 f1 hc
  go_wp2_with (refine wpList_makeMapN rfl 101 rfl ?_)
  intro w2 m2
  have M2 := Lib.hid m2.map
  have F2 : Hid (Fr (fun b => b = v) w w2) := F1.out.trans m2.fr.weak
  have B2 := Lib.hid (B1.out.fr m2.fr (fun x => x))
  have SZ : Hid (w.heap.size ≤ w1.heap.size) := F1.out.size
  clear m2 B1 F1
  obtain ⟨gm, hgm⟩ : ∃ gm, gm = w1.heap.size := ⟨_, rfl⟩
  rw [← hgm] at M2 SZ ⊢
  clear hgm
  go_wp2_with (refine wpList_storeFld rfl 101 (.tmp 34) _ rfl v 3 (.map (some gm)) rfl rfl rfl (by kernel_rfl) _ _ #[.pointer (some ⟨s, 0, none⟩), .map (some mr), .slice A n cap, .map (some gm)] B2.out (show 3 < 4 by decide) rfl ?_)
  intro w3 b3 f3
  have NE : Hid (v ≠ gm ∧ s ≠ gm ∧ mr ≠ gm ∧ ∀ b, (Value.slice A n cap).ownBlock = some b → b ≠ gm) := ⟨by have := HLT.out; have := SZ.out; omega, by have := HS0.out.1; have := SZ.out; omega, by have := HS0.out.2.1; have := SZ.out; omega, fun b hb => by have := HS0.out.2.2 b hb; have := SZ.out; omega⟩
  have F3 : Fr (fun b => b = v) w w3 := F2.out.trans f3
  have VN : v ≠ s ∧ v ≠ mr ∧ ∀ b, (Value.slice A n cap).ownBlock = some b → b ≠ v := HV.out.vne
  have R0 : Hid (RbI w v s mr gm (.slice A n cap) rl L 0 w3) := by
    obtain ⟨a, q1, q2⟩ := HV.out.base
    refine ⟨b3, ⟨a, q1.fr F3 (fun e => VN.1 e.symm), q2⟩, HV.out.reads.fr F3 (fun e => VN.2.1 e.symm), own_fr HV.out.calls F3 VN.2.2, ⟨[], M2.out.fr f3 (fun e => NE.out.1 e.symm), fun n => rfl⟩, F3⟩
  have LLT : Hid (v < w3.heap.size ∧ s < w3.heap.size ∧ mr < w3.heap.size ∧ gm < w3.heap.size) := ⟨Nat.lt_of_lt_of_le HLT.out F3.size, Nat.lt_of_lt_of_le HS0.out.1 F3.size, Nat.lt_of_lt_of_le HS0.out.2.1 F3.size, Nat.lt_of_lt_of_le M2.out.lt f3.size⟩
  have c2 : w3.cell? ⟨v, 2, none⟩ = some (.slice A n cap) := R0.out.blk.cell 2
  clear b3 f3 F3 VN M2 B2 F2
  go_wp2
  clear c2
  go_loopw [40] (fun i wr => ∃ k : Nat, k ≤ n ∧ i = .int .i64 k ∧ RbI w v s mr gm (.slice A n cap) rl L k wr) (fun i _ => n - (intOf i).toNat)
  case atStart => exact ⟨0, Nat.zero_le _, rfl, R0.out⟩
  case round =>
    obtain ⟨k, hk, rfl, hE⟩ := hrel
    have KE := Lib.hid hE
    have HK := Lib.hid hk
    clear hE
    by_cases hlt : k < n
    · obtain ⟨c, hc⟩ : ∃ c, L[k]? = some c := ⟨_, List.getElem?_eq_getElem (by rw [← HN.out]; exact hlt)⟩
      have HCK := Lib.hid hc
      obtain ⟨ad, hA, hx⟩ : ∃ ad, A = some ad ∧ ∀ j x, c.cells[j]? = some x → wr.cell? ((ad.add (k * 7)).add j) = some x := by
        have KC := KE.out.calls
        rw [HN.out] at KC
        obtain ⟨ad, d, e, hd, hx⟩ := CL.at_ ⟨Rd.of_own KC, rfl⟩ (k := k) (by rw [← HN.out]; exact hlt)
        rw [hc] at hd
        injection hd with hd
        subst hd
        exact ⟨ad, e, hx⟩
      subst hA
      have d1 : (0 : Int) ≤ (k : Int) := by omega
      have d2 : (k : Int) < (n : Int) := by omega
      have d3 : (k : Int) + 1 = ((k + 1 : Nat) : Int) := by omega
      obtain ⟨k1, hk1⟩ : ∃ k1, k1 = k + 1 := ⟨_, rfl⟩
      rw [← hk1] at d3
      have HK1 := Lib.hid hk1
      have d4 : IntKind.i64.wrap (k1 : Int) = (k1 : Int) := IntWalk.i64_in _ (by have := HLL.out; omega)
      have HX := Lib.hid hx
      clear hk1 hc hx
      go_wp2_with (first
        | (refine wpList_load_add rfl 238 (.tmp 43) rfl (ad.add (k * 7)) rfl c.cells _ HX.out Tryz.underlying238 rfl infoCh ?_)
        | (refine wpList_allocBlk rfl 238 rfl _ zvChg #[.int .i64 0, .string ByteArray.empty, .int .i64 0, .int .i64 0, .string ByteArray.empty, .string ByteArray.empty, .bool false] rfl ?_))
      intro w5 n5
      have KE5 := Lib.hid (KE.out.fr0 n5.fr)
      have N5 := Lib.hid n5.blk
      have G5 : Hid (w.heap.size ≤ wr.heap.size ∧ wr.heap.size ≠ gm ∧ v ≠ wr.heap.size ∧ s ≠ wr.heap.size ∧ mr ≠ wr.heap.size ∧ ∀ b, (Value.slice (some ad) n cap).ownBlock = some b → b ≠ wr.heap.size) := by
        obtain ⟨q1, q2, q3, q4, q5⟩ := KE.out.lts
        exact ⟨KE.out.fr.size, by omega, by omega, by omega, by omega, fun b hb => by have := q5 b hb; omega⟩
      clear n5
      obtain ⟨gc, hgc⟩ : ∃ gc, gc = wr.heap.size := ⟨_, rfl⟩
      rw [← hgc] at N5 G5 ⊢
      clear hgc
      have O : Hid (c.cells.toArray.all (·.oneCell') = true) := CV.one c
      have I : Hid ((Tryz.prog.info? 238).map (·.size) = some c.cells.toArray.size) := infoCh
      have Z : Hid ((#[.int .i64 0, .string ByteArray.empty, .int .i64 0, .int .i64 0, .string ByteArray.empty, .string ByteArray.empty, .bool false] : Array Value).size = c.cells.toArray.size) := by show 7 = c.cells.length; rw [CV.cells_length]
      go_wp2_with (refine wpList_storeBlk rfl 238 (.tmp 6) _ rfl gc c.cells.toArray rfl rfl _ _ N5.out I.out Z.out O.out ?_)
      intro w6 b6 f6
      have KE6 := Lib.hid (KE5.out.new f6 G5.out.1 G5.out.2.1 G5.out.2.2.1 G5.out.2.2.2.1 G5.out.2.2.2.2.1 G5.out.2.2.2.2.2)
      have B6 := Lib.hid b6
      clear b6 f6 KE5 KE N5 HX I Z O
      go_upto_region 10 with fail
      refine wp_mid 7 (by kernel_rfl) (by kernel_rfl) ?_
      intro w7 f7
      have KE7 := Lib.hid (KE6.out.fr0 f7)
      have B7 := Lib.hid (B6.out.fr f7 (fun x => x))
      clear f7 KE6 B6
      have c3 : w7.cell? ⟨v, 3, none⟩ = some (.map (some gm)) := KE7.out.blk.cell 3
      simp only [List.take_succ_cons, List.take_zero, List.drop_succ_cons, List.drop_zero]
      still_step
      still_step
      still_step
      still_step
      still_step
      refine still_loadc rfl _ _ rfl ⟨gc, 0, none⟩ rfl c.nm.cells (blk_at B7.out 0 _ c.name_at) Tryz.underlying144 rfl infoName ?_
      still_step
      refine wpStill_nil ?_
      obtain ⟨ll5, hl5, hq5⟩ := KE7.out.last
      refine wpList_updateN rfl und_last _ _ _ rfl (b := gm) (n := c.nm) (v := .int .i64 (k : Nat)) rfl rfl rfl hl5 ?_
      intro w8 hm f8
      have KE8 := Lib.hid (KE7.out.step HCK.out hq5 hm f8 SZ.out NE.out.1 NE.out.2.1 NE.out.2.2.1 NE.out.2.2.2)
      clear hm f8 hl5 hq5 KE7 B7 c3
      go_wp2_with fail
      refine wpStill_nil ?_
      go_wp2
      go_roundw
      case rel => exact ⟨k1, by have := HK1.out; omega, rfl, by rw [HK1.out]; exact KE8.out⟩
      case measure => have := HK1.out; simp [intOf]; omega
    · obtain rfl : k = n := by omega
      have d2 : ¬ ((k : Int) < (k : Int)) := by omega
      have HQ : Hid (PP (.returned (.int .i64 0)) wr) := FIN.out _ wr rfl (KE.out.done HN.out NE.out.2.2.1) (KE.out.vstep HV.out SZ.out)
      clear FIN
      go_wp2
      first | exact HQ.out | (go_ret; exact HQ.out)
end Go.Proofs.YtmpokappjogehaaGreatDoor

namespace Go.Proofs.YtmpokappjogehaaGreatDoor
namespace Ev
open Go Go.RowKit

theorem lastC_nm {L : List CV} {n : NameV} {c : CV} (h : lastC L n = some c) : c.nm = n := by
  unfold lastC at h
  cases hi : idxL L n with
  | none => rw [hi] at h; cases h
  | some i =>
    rw [hi, Option.bind_some] at h
    obtain ⟨d, h1, h2⟩ := idxL_in hi
    rw [h] at h1
    injection h1 with h1
    subst h1
    exact h2
def bB : BirthV := ⟨(⟨1, 49⟩ : Str).ba, 0⟩
def pnv : NameV := pn.nv
theorem pnv_eq : pnv = nBirth 11 bB := rfl
abbrev encB (p : PipeV) : ByteArray := ⟨(encP p).toArray⟩
theorem ok_bB : okBirth bB = true := by kernel_rfl
theorem ok_pn : okNm (nBirth 11 bB) = true := by kernel_rfl
theorem bB_size : bB.maker.size ≤ 1099511627776 := by
  show (⟨1, 49⟩ : Str).ba.size ≤ _
  rw [Str.ba_size]
  show 1 ≤ _
  omega
theorem birthE_conc {σ : Sg} {ρ : Nat → Value} {b : List EV} (h : birthE b = true) : EV.concs σ ρ b = some bB.cells := by
  unfold birthE at h
  split at h
  · rw [sameS_eq h]; rfl
  · cases h
theorem sym_last {ρ : Nat → Value} {bs : VBs} {l : List ECall} {Lb L : List CV} (h : pipeSym bs l = true) (hb : BaseOk ρ bs Lb) (hL : allO (l.map (ECall.cv ρ)) = some L) {P : ByteArray} (hP : ρ 1 = .string P) : lastC (Lb ++ L.reverse) (nBirth 11 bB) = some ⟨nBirth 11 bB, P, false⟩ := by
  unfold pipeSym at h
  split at h
  · rename_i nm i lo hi hf
    obtain rfl := Nat.eq_of_beq_eq_true h
    rcases find_spec pn hb hL with ⟨h1, _⟩ | ⟨c, x, h1, h2, h3⟩
    · rw [h1] at hf; cases hf
    · rw [h1] at hf
      injection hf with hf
      subst hf
      obtain ⟨_, q2, q3⟩ := cv_nm h2
      have q1 := lastC_nm h3
      simp only [EV.conc, hP] at q2
      split at q2
      · injection q2 with q2
        injection q2 with q2
        obtain ⟨nm', x', a'⟩ := x
        simp only at q1 q2 q3
        subst q1 q2 q3
        exact h3
      · cases q2
  · cases h

section
variable {ρ : Nat → Value} {σ : Sg} {own : Ow} {w w' : World} {m m' : Mem XO}
/-- What the symbols mean at a write. -/
def RhoW (ρ : Nat → Value) (c : Nat) (q s : ByteArray) : Prop := q.size ≤ 256 ∧ s.size ≤ 100000 ∧ ρ 1 = .string (encB ⟨0, 1, 1, q⟩) ∧ ρ 2 = .string s ∧
  match c with
  | 0 => s.size = 0
  | 1 => s.size ≠ 0 ∧ q.size = 256
  | _ => s.size ≠ 0 ∧ q.size < 256 ∧ ρ 3 = .int .i64 ((min s.size (256 - q.size) : Nat) : Int) ∧ ρ 4 = .string (encB ⟨0, 1, 1, q ++ s.extract 0 (min s.size (256 - q.size))⟩)
theorem newP_cv {P : ByteArray} (h : ρ 4 = .string P) (hs : P.size ≤ 65536) : newP.cv ρ = some ⟨nBirth 11 bB, P, false⟩ := by
  have e : (EV.sstr 4 0 65536).conc (fun _ => none) ρ = some (.string P) := by
    simp only [EV.conc, h]
    rw [if_pos ⟨Nat.zero_le _, hs⟩]
  unfold ECall.cv
  show (match (EV.sstr 4 0 65536).conc (fun _ => none) ρ with | some (.string x) => _ | _ => _) = _
  rw [e]
  rfl
theorem encB_size {p : PipeV} (h : p.bytes.size ≤ 256) : (encB p).size ≤ 65536 := by
  show (encP p).length ≤ _
  simp only [encP, textB, List.length_append, strL_length, List.length_nil]
  have := enc_length p.epoch
  have := enc_length p.readers
  have := enc_length p.writers
  have := enc_length p.bytes.size
  omega
theorem k_pw {c id lo hi : Nat} {b : List EV} {bs : VBs} {l : List ECall} {q s : ByteArray} (hg : m.h.get id = some (.ext (.view bs l))) (hb : birthE b = true) (hp : pipeSym bs l = true) (hl : l.length ≤ 1000) (hR : RhoW ρ c q s) :
    KOk ρ 43 [.ptr id 0, .agg b, .int .i64 (.ofNat 0), .sstr 2 lo hi] m (resP c (.sint .i64 3 (.ofNat 0) (.ofNat 256)) (.int .i64 (.ofNat 0)) id bs l m).1 (resP c (.sint .i64 3 (.ofNat 0) (.ofNat 256)) (.int .i64 (.ofNat 0)) id bs l m).2 := by
  obtain ⟨r0, r1, r2, r3, r4⟩ := hR
  refine ⟨enters_b (by kernel_rfl), fun σ own w vs hc hH => ?_⟩
  obtain ⟨v, cc, h1, h2, Lb, L, s0, hbs, hL, hV, hB, hk, hs⟩ := hH.obj id _ hg
  obtain ⟨us, hu, rfl⟩ := ptr_args hc h1
  have hu' : us = [.agg bB.cells.toArray, .int .i64 ((0 : Nat) : Int), .string s] := by
    by_cases hx : lo ≤ s.size ∧ s.size ≤ hi
    · simp only [EV.concs, EV.conc, birthE_conc hb, r3, if_pos hx, Option.some.injEq] at hu
      exact hu.symm
    · simp only [EV.concs, EV.conc, birthE_conc hb, r3, if_neg hx] at hu
      cases hu
  subst hu'
  have hn := sym_last hp hbs hL r2
  have hlen : (Lb ++ L.reverse).length ≤ 1048576 := by
    have := base_len hbs
    have := allO_length hL
    rw [List.length_append, List.length_reverse]
    omega
  have hU0 : ¬ VB w v 0 := fun e => by
    have h3 : own 0 = some id := hk 0 e
    rw [(hH.tab 0 rfl).2] at h3
    cases h3
  have okq : okPipe ⟨0, 1, 1, q⟩ := ⟨Nat.zero_le _, show (1 : Nat) ≤ 64 by decide, show (1 : Nat) ≤ 64 by decide, .inl (show (1 : Nat) ≠ 0 by decide), r0⟩
  match c, r4 with
  | 0, r4 =>
    refine (PWriteG ⟨0, 1, 1, q⟩ ⟨0, 1, 1, q⟩ s 0 0 okq bB v (Lb ++ L.reverse) w hV hH.g hU0 ok_bB ok_pn bB_size hlen hn (fun W g gs gn hBg hBs hBn hne => (Write1_none g gs gn s W hBs r4).mono ?_) (fun _ => okq)).mono ?_
    · rintro e W' ⟨rfl, rfl⟩
      exact ⟨rfl, hBg, hBn, Fr.refl _ _⟩
    · rintro e w' ⟨rfl, hV', hst⟩
      rw [if_neg (fun h => h.2 rfl)] at hV'
      exact view_post hH h1 h2 hk hs hB hst hV' hbs hL rfl
  | 1, r4 =>
    refine (PWriteG ⟨0, 1, 1, q⟩ ⟨0, 1, 1, q⟩ s 0 19 okq bB v (Lb ++ L.reverse) w hV hH.g hU0 ok_bB ok_pn bB_size hlen hn (fun W g gs gn hBg hBs hBn hne => (Write1_full 0 1 1 q s g gs gn W hBg hBs r4.1 (by decide) r4.2).mono ?_) (fun h => by cases h)).mono ?_
    · rintro e W' ⟨rfl, rfl⟩
      exact ⟨rfl, hBg, hBn, Fr.refl _ _⟩
    · rintro e w' ⟨rfl, hV', hst⟩
      rw [if_neg (fun h => by cases h.1)] at hV'
      exact view_post hH h1 h2 hk hs hB hst hV' hbs hL rfl
  | c + 2, r4 =>
    obtain ⟨a1, a2, a3, a4⟩ := r4
    obtain ⟨n, hnn⟩ : ∃ n, n = min s.size (256 - q.size) := ⟨_, rfl⟩
    rw [← hnn] at a3 a4
    have hz : (q ++ s.extract 0 n).size = q.size + n := by
      rw [ByteArray.size_append, ByteArray.size_extract]
      omega
    have okn : okPipe ⟨0, 1, 1, q ++ s.extract 0 n⟩ := ⟨Nat.zero_le _, show (1 : Nat) ≤ 64 by decide, show (1 : Nat) ≤ 64 by decide, .inl (show (1 : Nat) ≠ 0 by decide), by show (q ++ s.extract 0 n).size ≤ 256; omega⟩
    refine (PWriteG ⟨0, 1, 1, q⟩ ⟨0, 1, 1, q ++ s.extract 0 n⟩ s n 0 okq bB v (Lb ++ L.reverse) w hV hH.g hU0 ok_bB ok_pn bB_size hlen hn (fun W g gs gn hBg hBs hBn hne => Write1_some 0 1 1 q s g gs gn n W hBg hBs hBn hne a1 (by decide) a2 r1 hnn) (fun _ => okn)).mono ?_
    rintro e w' ⟨rfl, hV', hst⟩
    rw [if_pos ⟨rfl, fun e => by
      have e2 := congrArg (fun p => p.bytes.size) e
      simp only [hz] at e2
      omega⟩, List.append_assoc] at hV'
    have hc4 := newP_cv a4 (encB_size okn.2.2.2.2)
    refine view_post (L' := ⟨nBirth 11 bB, encB ⟨0, 1, 1, q ++ s.extract 0 n⟩, false⟩ :: L) hH h1 h2 hk hs hB hst (by rw [List.reverse_cons]; exact hV') hbs ?_ ?_
    · simp only [List.map_cons, hc4, allO, hL]
    · have e3 : (EV.sint .i64 3 (.ofNat 0) (.ofNat 256)).conc σ ρ = some (.int .i64 (n : Int)) := by
        simp only [EV.conc, a3]
        exact if_pos ⟨by show (0 : Int) ≤ _; omega, by show _ ≤ (256 : Int); omega⟩
      show (EV.tup [.sint .i64 3 (.ofNat 0) (.ofNat 256), okE]).conc σ ρ = _
      rw [EV.conc, concs_mk e3 (concs_mk (show okE.conc σ ρ = some (.int .i64 0) from rfl) (show EV.concs σ ρ [] = some [] from rfl))]
      rfl
theorem kPW_ok {c : Nat} {q s : ByteArray} (hR : RhoW ρ c q s) : CallOk (TX ρ) Tryz.prog ρ (kPW c) := by
  intro f args m v m' h
  unfold kPW at h
  replace h := bif_some h
  rcases h with ⟨hf, h⟩ | ⟨_, h⟩
  · obtain rfl := Nat.eq_of_beq_eq_true hf
    split at h
    · split at h
      · rename_i hg
        replace h := bif_some h
        rcases h with ⟨hb, h⟩ | ⟨_, h⟩
        · simp only [Bool.and_eq_true, Nat.ble_eq] at hb
          obtain ⟨⟨⟨b1, b2⟩, b3⟩, b4⟩ := hb
          obtain rfl := Nat.eq_of_beq_eq_true b2
          injection h with h
          have e1 := congrArg Prod.fst h
          have e2 := congrArg Prod.snd h
          simp only at e1 e2
          rw [← e1, ← e2]
          exact k_pw hg b1 b3 b4 hR
        · cases h
      · cases h
    · cases h
  · cases h
end
end Ev
end Go.Proofs.YtmpokappjogehaaGreatDoor

namespace Go.Proofs.YtmpokappjogehaaGreatDoor
namespace Ev
open Go Go.RowKit
section
variable {ρ : Nat → Value} {σ : Sg} {own : Ow} {w w' : World} {m m' : Mem XO}
/-- What the symbols mean at a read. -/
def RhoR (ρ : Nat → Value) (c wr : Nat) (q : ByteArray) (most : Nat) : Prop := q.size ≤ 256 ∧ wr ≤ 1 ∧ ρ 1 = .string (encB ⟨0, 1, wr, q⟩) ∧ ρ 2 = .int .i64 (most : Int) ∧
  match c with
  | 0 => most = 0 ∨ (q.size = 0 ∧ wr = 0)
  | 1 => most ≠ 0 ∧ q.size = 0 ∧ wr ≠ 0
  | _ => most ≠ 0 ∧ q.size ≠ 0 ∧ ρ 3 = .string (q.extract 0 (min most q.size)) ∧ ρ 4 = .string (encB ⟨0, 1, wr, q.extract (min most q.size) q.size⟩)
theorem extract_all (q : ByteArray) : q.extract 0 q.size = q := by
  apply ByteArray.ext
  rw [ByteArray.data_extract]
  exact Array.extract_size
theorem extract_nil (q : ByteArray) : q.extract 0 0 = ByteArray.empty := by
  apply ByteArray.ext
  apply Array.ext
  · show (q.extract 0 0).size = _
    rw [ByteArray.size_extract]
    rfl
  · intro i h1 h2
    exact absurd h2 (Nat.not_lt_zero i)
theorem k_pr {c id lo hi : Nat} {lo2 hi2 : Int} {b : List EV} {bs : VBs} {l : List ECall} {wr most : Nat} {q : ByteArray} (hg : m.h.get id = some (.ext (.view bs l))) (hb : birthE b = true) (hp : pipeSym bs l = true) (hl : l.length ≤ 1000) (hR : RhoR ρ c wr q most) :
    KOk ρ 52 [.ptr id 0, .agg b, .int .i64 (.ofNat 0), .sint .i64 2 lo2 hi2] m (resP c (.sstr 3 0 256) (.str ⟨0, 0⟩) id bs l m).1 (resP c (.sstr 3 0 256) (.str ⟨0, 0⟩) id bs l m).2 := by
  obtain ⟨r0, r1, r2, r3, r4⟩ := hR
  refine ⟨enters_b (by kernel_rfl), fun σ own w vs hc hH => ?_⟩
  obtain ⟨v, cc, h1, h2, Lb, L, s0, hbs, hL, hV, hB, hk, hs⟩ := hH.obj id _ hg
  obtain ⟨us, hu, rfl⟩ := ptr_args hc h1
  have hu' : us = [.agg bB.cells.toArray, .int .i64 ((0 : Nat) : Int), .int .i64 (most : Int)] := by
    by_cases hx : lo2 ≤ (most : Int) ∧ (most : Int) ≤ hi2
    · simp only [EV.concs, EV.conc, birthE_conc hb, r3, if_pos hx, Option.some.injEq] at hu
      exact hu.symm
    · simp only [EV.concs, EV.conc, birthE_conc hb, r3, if_neg hx] at hu
      cases hu
  subst hu'
  have hn := sym_last hp hbs hL r2
  have hlen : (Lb ++ L.reverse).length ≤ 1048576 := by
    have := base_len hbs
    have := allO_length hL
    rw [List.length_append, List.length_reverse]
    omega
  have hU0 : ¬ VB w v 0 := fun e => by
    have h3 : own 0 = some id := hk 0 e
    rw [(hH.tab 0 rfl).2] at h3
    cases h3
  have okq : okPipe ⟨0, 1, wr, q⟩ := ⟨Nat.zero_le _, show (1 : Nat) ≤ 64 by decide, show wr ≤ 64 by omega, .inl (show (1 : Nat) ≠ 0 by decide), r0⟩
  match c, r4 with
  | 0, r4 =>
    replace r4 : most = 0 ∨ (q.size = 0 ∧ wr = 0) := r4
    have hm : 0 = min most q.size := by omega
    refine (PReadG ⟨0, 1, wr, q⟩ ⟨0, 1, wr, q⟩ most ByteArray.empty 0 okq bB v (Lb ++ L.reverse) w hV hH.g hU0 ok_bB ok_pn bB_size hlen hn (fun W g gs gn hBg hBs hBn hne => (Read1_some 0 1 wr q most 0 g gs gn W hBg hBs hBn hne.1 (by omega) hm (by omega)).mono ?_) (fun _ => okq)).mono ?_
    · rintro e W' ⟨rfl, q1, q2, q3⟩
      rw [extract_all] at q1
      rw [extract_nil] at q2
      exact ⟨rfl, q1, q2, q3⟩
    · rintro e w' ⟨rfl, hV', hst⟩
      rw [if_neg (fun h => h.2 rfl)] at hV'
      exact view_post hH h1 h2 hk hs hB hst hV' hbs hL rfl
  | 1, r4 =>
    refine (PReadG ⟨0, 1, wr, q⟩ ⟨0, 1, wr, q⟩ most ByteArray.empty 19 okq bB v (Lb ++ L.reverse) w hV hH.g hU0 ok_bB ok_pn bB_size hlen hn (fun W g gs gn hBg hBs hBn hne => (Read1_busy 0 1 wr q most g gs gn W hBg hBs r4.1 r4.2.1 r4.2.2).mono ?_) (fun h => by cases h)).mono ?_
    · rintro e W' ⟨rfl, rfl⟩
      exact ⟨rfl, hBg, hBn, Fr.refl _ _⟩
    · rintro e w' ⟨rfl, hV', hst⟩
      rw [if_neg (fun h => by cases h.1)] at hV'
      exact view_post hH h1 h2 hk hs hB hst hV' hbs hL rfl
  | c + 2, r4 =>
    obtain ⟨a1, a2, a3, a4⟩ := r4
    obtain ⟨n, hnn⟩ : ∃ n, n = min most q.size := ⟨_, rfl⟩
    rw [← hnn] at a3 a4
    have hz : (q.extract n q.size).size = q.size - n := by
      rw [ByteArray.size_extract]
      omega
    have hz0 : (q.extract 0 n).size = n := by
      rw [ByteArray.size_extract]
      omega
    have okn : okPipe ⟨0, 1, wr, q.extract n q.size⟩ := ⟨Nat.zero_le _, show (1 : Nat) ≤ 64 by decide, show wr ≤ 64 by omega, .inl (show (1 : Nat) ≠ 0 by decide), by show (q.extract n q.size).size ≤ 256; omega⟩
    refine (PReadG ⟨0, 1, wr, q⟩ ⟨0, 1, wr, q.extract n q.size⟩ most (q.extract 0 n) 0 okq bB v (Lb ++ L.reverse) w hV hH.g hU0 ok_bB ok_pn bB_size hlen hn (fun W g gs gn hBg hBs hBn hne => Read1_some 0 1 wr q most n g gs gn W hBg hBs hBn hne.1 (.inr (.inl a2)) hnn (by omega)) (fun _ => okn)).mono ?_
    rintro e w' ⟨rfl, hV', hst⟩
    rw [if_pos ⟨rfl, fun e => by
      have e2 := congrArg (fun p => p.bytes.size) e
      simp only [hz] at e2
      omega⟩, List.append_assoc] at hV'
    have hc4 := newP_cv a4 (encB_size okn.2.2.2.2)
    refine view_post (L' := ⟨nBirth 11 bB, encB ⟨0, 1, wr, q.extract n q.size⟩, false⟩ :: L) hH h1 h2 hk hs hB hst (by rw [List.reverse_cons]; exact hV') hbs ?_ ?_
    · simp only [List.map_cons, hc4, allO, hL]
    · have e3 : (EV.sstr 3 0 256).conc σ ρ = some (.string (q.extract 0 n)) := by
        simp only [EV.conc, a3]
        exact if_pos ⟨Nat.zero_le _, by omega⟩
      show (EV.tup [.sstr 3 0 256, okE]).conc σ ρ = _
      rw [EV.conc, concs_mk e3 (concs_mk (show okE.conc σ ρ = some (.int .i64 0) from rfl) (show EV.concs σ ρ [] = some [] from rfl))]
      rfl
theorem kPR_ok {c wr most : Nat} {q : ByteArray} (hR : RhoR ρ c wr q most) : CallOk (TX ρ) Tryz.prog ρ (kPR c) := by
  intro f args m v m' h
  unfold kPR at h
  replace h := bif_some h
  rcases h with ⟨hf, h⟩ | ⟨_, h⟩
  · obtain rfl := Nat.eq_of_beq_eq_true hf
    split at h
    · split at h
      · rename_i hg
        replace h := bif_some h
        rcases h with ⟨hb, h⟩ | ⟨_, h⟩
        · simp only [Bool.and_eq_true, Nat.ble_eq] at hb
          obtain ⟨⟨⟨b1, b2⟩, b3⟩, b4⟩ := hb
          obtain rfl := Nat.eq_of_beq_eq_true b2
          injection h with h
          have e1 := congrArg Prod.fst h
          have e2 := congrArg Prod.snd h
          simp only at e1 e2
          rw [← e1, ← e2]
          exact k_pr (lo := 0) (hi := 0) hg b1 b3 b4 hR
        · cases h
      · cases h
    · cases h
  · cases h
/-- What the symbols mean when the writer's end is closed. -/
def RhoL (ρ : Nat → Value) (q : ByteArray) : Prop := q.size ≤ 256 ∧ ρ 1 = .string (encB ⟨0, 1, 1, q⟩) ∧ ρ 4 = .string (encB ⟨0, 1, 0, q⟩)
theorem kPL_ok {q : ByteArray} (hR : RhoL ρ q) : CallOk (TX ρ) Tryz.prog ρ kPL := by
  intro f args m v m' h
  unfold kPL at h
  replace h := bif_some h
  rcases h with ⟨hf, h⟩ | ⟨_, h⟩
  · obtain rfl := Nat.eq_of_beq_eq_true hf
    split at h
    · rename_i id b
      split at h
      · rename_i bs l hg
        replace h := bif_some h
        rcases h with ⟨hb, h⟩ | ⟨_, h⟩
        · simp only [Bool.and_eq_true, Nat.ble_eq] at hb
          obtain ⟨⟨b1, hp⟩, hl⟩ := hb
          injection h with h
          have e1 := congrArg Prod.fst h
          have e2 := congrArg Prod.snd h
          simp only at e1 e2
          rw [← e1, ← e2]
          obtain ⟨r0, r2, r4⟩ := hR
          refine ⟨enters_b (by kernel_rfl), fun σ own w vs hc hH => ?_⟩
          obtain ⟨v, cc, h1, h2, Lb, L, s0, hbs, hL, hV, hB, hk, hs⟩ := hH.obj id _ hg
          obtain ⟨us, hu, rfl⟩ := ptr_args hc h1
          have hu' : us = [.agg bB.cells.toArray, .int .i64 ((0 : Nat) : Int), .bool true] := by
            simp only [EV.concs, EV.conc, birthE_conc b1, Option.some.injEq] at hu
            exact hu.symm
          subst hu'
          have hn := sym_last hp hbs hL r2
          have hlen : (Lb ++ L.reverse).length ≤ 1048576 := by
            have := base_len hbs
            have := allO_length hL
            rw [List.length_append, List.length_reverse]
            omega
          have hU0 : ¬ VB w v 0 := fun e => by
            have h3 : own 0 = some id := hk 0 e
            rw [(hH.tab 0 rfl).2] at h3
            cases h3
          have okq : okPipe ⟨0, 1, 0 + 1, q⟩ := ⟨Nat.zero_le _, show (1 : Nat) ≤ 64 by decide, show (1 : Nat) ≤ 64 by decide, .inl (show (1 : Nat) ≠ 0 by decide), r0⟩
          have okn : okPipe ⟨0, 1, 0, q⟩ := ⟨Nat.zero_le _, show (1 : Nat) ≤ 64 by decide, Nat.zero_le _, .inl (show (1 : Nat) ≠ 0 by decide), r0⟩
          refine (PLeave_any 0 1 0 q okq okn bB v (Lb ++ L.reverse) w hV hH.g hU0 ok_bB ok_pn bB_size hlen hn).mono ?_
          rintro e w' ⟨rfl, hV', hst⟩
          rw [List.append_assoc] at hV'
          have hc4 := newP_cv r4 (encB_size okn.2.2.2.2)
          refine view_post (L' := ⟨nBirth 11 bB, encB ⟨0, 1, 0, q⟩, false⟩ :: L) hH h1 h2 hk hs hB hst (by rw [List.reverse_cons]; exact hV') hbs ?_ rfl
          simp only [List.map_cons, hc4, allO, hL]
        · cases h
      · cases h
    · cases h
  · cases h
theorem kRb_ok : CallOk (TX ρ) Tryz.prog ρ kRb := by
  intro f args m v m' h
  unfold kRb at h
  replace h := bif_some h
  rcases h with ⟨hf, h⟩ | ⟨_, h⟩
  · obtain rfl := Nat.eq_of_beq_eq_true hf
    split at h
    · rename_i id s lo hi
      split at h
      · rename_i s' l0 hg
        replace h := bif_some h
        rcases h with ⟨hb, h⟩ | ⟨_, h⟩
        · obtain rfl := Nat.eq_of_beq_eq_true hb
          injection h with h
          have e1 := congrArg Prod.fst h
          have e2 := congrArg Prod.snd h
          simp only at e1 e2
          rw [← e1, ← e2]
          refine ⟨enters_b (by kernel_rfl), fun σ own w vs hc hH => ?_⟩
          obtain ⟨v, cc, h1, h2, Lb, L, s0, hbs, hL, hV, hB, hk, hs⟩ := hH.obj id _ hg
          obtain ⟨us, hu, rfl⟩ := ptr_args hc h1
          obtain ⟨L0, c1, c2, c3, c4⟩ := hbs
          have hu' : us = [.int .i64 ((Lb.length : Nat) : Int)] := by
            by_cases hx : lo ≤ ((Lb.length : Nat) : Int) ∧ ((Lb.length : Nat) : Int) ≤ hi
            · simp only [EV.concs, EV.conc, c3, if_pos hx, Option.some.injEq] at hu
              exact hu.symm
            · simp only [EV.concs, EV.conc, c3, if_neg hx] at hu
              cases hu
          subst hu'
          simp only [List.map_nil, allO, Option.some.injEq] at hL
          subst hL
          rw [List.reverse_nil, List.append_nil] at hV
          refine (Rollback_any v Lb w hV (by omega)).mono ?_
          rintro e w' ⟨rfl, hV', hst⟩
          refine view_post (L' := []) hH h1 h2 hk hs hB hst (by rw [List.reverse_nil, List.append_nil]; exact hV') ⟨L0, c1, c2, c3, c4⟩ rfl rfl
        · cases h
      · cases h
    · cases h
  · cases h
theorem kW_ok {c : Nat} {q s : ByteArray} (hR : RhoW ρ c q s) : CallOk (TX ρ) Tryz.prog ρ (kW c) := callOk_or (kAll_ok ρ) (callOk_or kRb_ok (kPW_ok hR))
theorem kR_ok {c wr most : Nat} {q : ByteArray} (hR : RhoR ρ c wr q most) : CallOk (TX ρ) Tryz.prog ρ (kR c) := callOk_or (kAll_ok ρ) (callOk_or kRb_ok (kPR_ok hR))
theorem kL_ok {q : ByteArray} (hR : RhoL ρ q) : CallOk (TX ρ) Tryz.prog ρ kL := callOk_or (kAll_ok ρ) (kPL_ok hR)
end
end Ev
end Go.Proofs.YtmpokappjogehaaGreatDoor

namespace Go.Proofs.YtmpokappjogehaaGreatDoor
namespace Ev
open Go Go.RowKit
theorem tw0 : viewRun (kW 0) 10 [who1, .int .i64 (.ofNat 1), .sstr 2 0 255] (vb lt1) [] = some (.tup [.int .i64 (.ofNat 0), okE], vb lt1, []) := by kernel_rfl
theorem tw1 : viewRun (kW 1) 10 [who1, .int .i64 (.ofNat 1), .sstr 2 0 255] (vb lt1) [] = some (.tup [.int .i64 (.ofNat 0), busyE], vb lt1, []) := by kernel_rfl
theorem tw2 : viewRun (kW 2) 10 [who1, .int .i64 (.ofNat 1), .sstr 2 0 255] (vb lt1) [] = some (.tup [.sint .i64 3 (.ofNat 0) (.ofNat 256), okE], vb lt1, [newP]) := by kernel_rfl
theorem tr0 : viewRun (kR 0) 11 [who2, .int .i64 (.ofNat 0), .sint .i64 2 (.ofNat 0) (.ofNat 4096)] (vb lt1) [] = some (.tup [.str ⟨0, 0⟩, okE], vb lt1, []) := by kernel_rfl
theorem tr1 : viewRun (kR 1) 11 [who2, .int .i64 (.ofNat 0), .sint .i64 2 (.ofNat 0) (.ofNat 4096)] (vb lt1) [] = some (.tup [.str ⟨0, 0⟩, busyE], vb lt1, []) := by kernel_rfl
theorem tr2 : viewRun (kR 2) 11 [who2, .int .i64 (.ofNat 0), .sint .i64 2 (.ofNat 0) (.ofNat 4096)] (vb lt1) [] = some (.tup [.sstr 3 0 256, okE], vb lt1, [newP]) := by kernel_rfl
end Ev
end Go.Proofs.YtmpokappjogehaaGreatDoor

namespace Go.Proofs.YtmpokappjogehaaGreatDoor
namespace Ev
open Go Go.RowKit
def dcl : ECall := mkC 4 ⟨1, 49⟩ 0 0 ⟨0, 0⟩ ⟨1, 0⟩
def lt0 : List ECall := oldP :: dcl :: lv16
theorem tc : viewRun kL 8 [who1, .int .i64 (.ofNat 1)] (vb lt1) [] = some (okE, vb lt1, [newP, dcl]) := by kernel_rfl
theorem tz0 : viewRun (kR 0) 11 [who2, .int .i64 (.ofNat 0), .sint .i64 2 (.ofNat 0) (.ofNat 4096)] (vb lt0) [] = some (.tup [.str ⟨0, 0⟩, okE], vb lt0, []) := by kernel_rfl
theorem tz2 : viewRun (kR 2) 11 [who2, .int .i64 (.ofNat 0), .sint .i64 2 (.ofNat 0) (.ofNat 4096)] (vb lt0) [] = some (.tup [.sstr 3 0 256, okE], vb lt0, [newP]) := by kernel_rfl
end Ev
end Go.Proofs.YtmpokappjogehaaGreatDoor
