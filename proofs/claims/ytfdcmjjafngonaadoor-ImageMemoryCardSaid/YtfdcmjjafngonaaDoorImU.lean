/- Pages of an image that is not valid: none. -/
import Derived.RangeFuncWrites
import Derived.RangeFuncBox
import Derived.LoopNIn
import Derived.LoopIn
import Derived.OwnWalkIn
import Derived.TacticsInMore
import Derived.Shelf.RegionOpen
import Derived.Test.YtfdcmjjafngonaaDoorImT
namespace Go.Proofs.YtfdcmjjafngonaaDoor
open Go.RowKit Go.Shelf

attribute [local go_sem] Oper.semAt_some

theorem Fr.grown0 {w w' : World} (h : Fr Nothing w w') : w.grownBy w' none := ⟨h.os, h.tape, h.output, h.size, fun k hk _ => h.block k hk (fun x => x)⟩

set_option maxRecDepth 100000 in
set_option maxHeartbeats 1000000 in
theorem pages_any (c d : ByteArray) (z e : Int) (w : World) : Calls Tryd.prog 51 #[imgV c d z e] w fun r w' => r = .returned (.func (.func 65) #[] #[.pointer (some ⟨w.heap.size, 0, none⟩)]) ∧ Fr Nothing w w' ∧ Blk w' w.heap.size 27 (imgC c d z e) := by
  go_enter Tryd.func51, Tryd.ntmps51
  go_wp2_with (refine wpList_boxBlk rfl 27 (.tmp 0) rfl _ rfl ?_)
  intro w1 n1
  have B1 : Hid (Blk w1 w.heap.size 27 (imgC c d z e)) := n1.blk
  have F1 := Lib.hid n1.fr
  clear n1
  go_wp2
  go_ret
  exact ⟨rfl, F1.out, B1.out⟩

set_option maxRecDepth 100000 in
set_option maxHeartbeats 1000000 in
theorem pages_stops0 (m B : Nat) (c d : ByteArray) (z e : Int) (w : World) (hc : c.size ≤ 1099511627776) (hd : d.size ≤ 1099511627776) (hz : -9223372036854775808 ≤ z ∧ z ≤ 9223372036854775807) (he : -9223372036854775808 ≤ e ∧ e ≤ 9223372036854775807)
    (hB : Blk w B 27 (imgC c d z e)) (hk : checkI c.size d.size z e ≠ 0) :
    SeqStopsK Fence.wide m Tryd.prog 65 #[.pointer (some ⟨B, 0, none⟩)] (fun x : ByteArray => #[Value.string x]) (fun _ _ => True) (fun ys => ys = []) (fun _ => False) 0 w := by
  intro l J Jx W hW hJ _ _ h0
  have CM := Lib.hid (fun w' => Memory_any c d z e w' hc hd hz he)
  rw [show memL (strL c) (strL d) z e = [] by unfold memL; rw [if_neg (by rw [strL_length, strL_length]; exact hk)]] at CM
  have HJ := Lib.hid hJ
  have H0 := Lib.hid h0
  obtain ⟨k0', k1', k2', k3'⟩ := img_cells hB (Fr.refl _ _)
  have k0 := (hW.cell (p := ⟨B, 0, none⟩) hB.lt).trans k0'
  have k1 := (hW.cell (p := ⟨B, 1, none⟩) hB.lt).trans k1'
  have k2 := (hW.cell (p := ⟨B, 2, none⟩) hB.lt).trans k2'
  have k3 := (hW.cell (p := ⟨B, 3, none⟩) hB.lt).trans k3'
  clear k0' k1' k2' k3' hB hJ h0 hW
  refine callsIn_of_wp Tryd.func65 rfl trivial ?_ rfl
  simp only [Tryd.ntmps65, List.size_toArray, List.length_cons, List.length_nil, Nat.reduceAdd, Nat.reduceSub, Array.replicate_succ, Array.replicate_zero, List.push_toArray, List.append_toArray, List.nil_append, List.cons_append]
  gi_wp2_with fail
  refine ⟨trivial, (fun h => by cases h), (callsIn_wide.2 (CM.out _)).mono ?_⟩
  rintro r W1 ⟨rfl, f1⟩
  have J1 := HJ.out [] W W1 none H0.out (Fr.grown0 f1) (fun r e => by cases e)
  clear f1

  gi_wp2
  refine wpIn_loop_once ?_
  gi_wp2
  go_end0
  exact ⟨⟨_, rfl⟩, .inl ⟨[], rfl, J1⟩⟩

theorem zv49 (w : World) : (zeroValue 49).run Tryd.prog w = .ok (.slice none 0 0) w := by kernel_rfl

theorem fr_own {w3 : World} : OwnFrom w3.heap.size (fun (_ : List ByteArray) W => Fr Nothing w3 W) := fun _ _ _ _ h hg hr => h.then_ (Fr.grown hg) (fun i hi e => by have := (hr i e.symm).1; omega)

set_option maxRecDepth 100000 in
set_option maxHeartbeats 1000000 in
theorem Pages_none (c d : ByteArray) (z e : Int) (w : World) (hc : c.size ≤ 1099511627776) (hd : d.size ≤ 1099511627776) (hz : -9223372036854775808 ≤ z ∧ z ≤ 9223372036854775807) (he : -9223372036854775808 ≤ e ∧ e ≤ 9223372036854775807) (hk : checkI c.size d.size z e ≠ 0) :
    Calls Tryd.prog 29 #[imgV c d z e] w (SameIn w (.slice none 0 0)) := by
  have CP := Lib.hid (fun w => pages_any c d z e w)
  have ST := Lib.hid (fun B w hB => pages_stops0 5 B c d z e w hc hd hz he hB hk)
  refine (callsIn_wide (n := 6)).1 (callsIn_of_wp_marks Tryd.func29 rfl trivial (wpIn_wide.2 ?_) rfl)
  simp only [Tryd.ntmps29, List.size_toArray, List.length_cons, List.length_nil, Nat.reduceAdd, Nat.reduceSub, Array.replicate_succ, Array.replicate_zero, List.push_toArray, List.append_toArray, List.nil_append, List.cons_append]
  go_wp2_with (refine wpList_boxBlk rfl 27 (.tmp 0) rfl _ rfl ?_)
  intro w1 n1
  have B1 : Hid (Blk w1 w.heap.size 27 (imgC c d z e)) := n1.blk
  have F1 := Lib.hid n1.fr
  clear n1
  generalize w.heap.size = g at *
  go_wp2_with (refine wpList_allocBlk rfl 49 rfl (.slice none 0 0) zv49 #[.slice none 0 0] rfl ?_)
  intro w2 n2
  have B2 := Lib.hid n2.blk
  have F2 := Lib.hid (F1.out.trans n2.fr)
  obtain ⟨k0, k1, k2, k3⟩ := img_cells B1.out n2.fr
  clear n2 F1 B1
  generalize w1.heap.size = g2 at *
  go_wp2_with fail
  refine (CP.out _).mono ?_
  rintro r w3 ⟨rfl, f3, b3⟩
  have F3 := Lib.hid (F2.out.trans f3)
  have B3 := Lib.hid (B2.out.fr f3 (fun x => x))
  have G3 := Lib.hid b3
  clear f3 b3 F2 B2 k0 k1 k2 k3
  generalize w2.heap.size = gs at *
  go_wp2_with fail
  refine (wpIn_wide (n := 6)).1 ?_
  refine wpIn_rangeFunc_ownG rfl (by omega) (gf := 65) (lb := #[.pointer (some ⟨gs, 0, none⟩)]) rfl trivial (enters_of Tryd.func65 (by kernel_rfl) rfl)
    (ST.out gs w3 G3.out) (fun _ _ => trivial) (fun _ _ _ _ _ _ _ _ => trivial) (Below.refl _ _) (fun _ => rfl)
    (fun _ W => Fr Nothing w3 W) (fun _ _ _ => False) fr_own (fun _ _ _ _ _ h _ _ => h.elim) (Fr.refl _ _) ?a1 ?assign ?body ?done ?stop
  case assign =>
    intro l x W K hK
    gi_wp2
    exact hK
  case body =>
    rintro l' pre x W hI hlt
    exact absurd hlt (Nat.not_lt_zero _)
  case done =>
    rintro D xs W hD rfl hI hK
    have PF : Fr (fun k => some k = some D) W (W.putObj D (.deferred none)) := Fr.grown (grownBy_putObj' W D _)
    have JF : Hid (Fr Nothing w (W.putObj D (.deferred none))) := (F3.out.trans hI).then_ PF (fun i hi e => by have e' : i = D := (by simpa using e); have := F3.out.size; omega)
    have c2 := (B3.out.fr hI (fun x => x)).cell 0
    simp only [List.getElem?_toArray, List.getElem?_cons_zero] at c2
    have KD := Lib.hid hK
    clear PF hI hK hD
    go_wp2
    refine ⟨by simp, .inl ⟨_, _, rfl, run_takeDeferred KD.out, ?_⟩⟩
    exact ⟨_, results_tmp Tryd.results29 _ _ _, rfl, JF.out⟩
  case stop =>
    rintro D cd pre W hD h
    exact h.elim
end Go.Proofs.YtfdcmjjafngonaaDoor
