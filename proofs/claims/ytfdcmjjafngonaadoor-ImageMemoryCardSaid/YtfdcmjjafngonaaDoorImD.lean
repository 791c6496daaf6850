/- Image: check and IsImage of both sides. -/
import Derived.Test.YtfdcmjjafngonaaDoorImC
import Derived.Test.YtfdcmjjafngonaaDoorShaW
import Derived.Test.YtfdcmjjafngonaaDoorText
import Derived.Test.YtfdcmjjafngonaaDoorReadB
import Derived.Test.YtfdcmjjafngonaaDoorShelf
namespace Go.Proofs.YtfdcmjjafngonaaDoor
open Go.RowKit

/-- The check of bytes: the first 8 of their digest. -/
def chk8 (l : List UInt8) : List UInt8 := (shaL l).take 8
theorem chk8_length (l : List UInt8) : (chk8 l).length = 8 := by unfold chk8; rw [List.length_take, shaL_length]; omega
theorem rd_take8 {w : World} {g : Nat} {t : TypeId} {d : List UInt8} (h : Blk w g t (d.map bvI).toArray) (hl : d.length = 32) : Rd w (fun k => k = g) 1 (some ⟨g, 0, none⟩) 8 ((d.take 8).map bvI) := by
  refine ⟨by rw [List.length_map, List.length_take, hl]; rfl, fun _ => ⟨_, rfl, rfl, fun j u hu => ?_⟩⟩
  rw [Addr.add_mid, Nat.zero_add, h.cell, List.getElem?_toArray]
  rw [List.map_take, List.getElem?_take] at hu
  split at hu
  · exact hu
  · cases hu

set_option maxRecDepth 100000 in
set_option maxHeartbeats 1000000 in
theorem check_any (s : ByteArray) (w : World) (hT : ShaTab w) (hs : s.size ≤ 1099511627776) (hs1 : 1 ≤ s.size) : Calls Tryd.prog 38 #[.string s] w (SameIn w (.string ⟨(chk8 (strL s)).toArray⟩)) := by
  have CS := Lib.hid (Sum_any s w hT hs hs1)
  have hl : (shaL (txL s)).length = 32 := shaL_length _
  have HI : Hid ((Tryd.prog.info? 44).map (·.size) = some ((shaL (txL s)).map bvI).toArray.size) := by rw [List.size_toArray, List.length_map, hl]; exact infoD
  have HZ : Hid (zero32c.size = ((shaL (txL s)).map bvI).toArray.size) := by
    have : ((shaL (txL s)).map bvI).toArray.size = 32 := by rw [List.size_toArray, List.length_map, hl]
    simp only [Hid]
    rw [this]
    rfl
  have HO : Hid (((shaL (txL s)).map bvI).toArray.all (·.oneCell') = true) := bytes_one _
  have HL := Lib.hid hl
  unfold chk8
  change Calls _ _ _ _ (SameIn w (.string ⟨((shaL (txL s)).take 8).toArray⟩))
  clear hT hl
  unfold digV at *
  generalize shaL (txL s) = d at *
  go_enter Tryd.func38, Tryd.ntmps38
  go_wp2_with fail
  refine CS.out.mono ?_
  rintro e w1 ⟨rfl, f1⟩
  have F1 := Lib.hid f1
  clear f1 CS
  have RA : Hid (∀ {w' : World} {g : Nat} {t : TypeId}, Blk w' g t (d.map bvI).toArray → (convert 42 9 (.slice (some ⟨g, 0, none⟩) 8 32)).run Tryd.prog w' = .ok (.string ⟨(d.take 8).toArray⟩) w') := fun hb =>
    run_str (P := Tryd.prog) _ 42 9 5 Tryd.underlying42 Tryd.underlying5 Tryd.underlying9 _ _ 8 32 _ (rd_take8 hb HL.out)
  generalize hD : (d.map bvI).toArray = RV at *
  clear hD
  go_wp2_with (refine wpList_allocBlk rfl 44 rfl zero32 zvD zero32c rfl ?_)
  intro w2 n2
  have B2 := Lib.hid n2.blk
  have F2 := Lib.hid (F1.out.trans n2.fr)
  have Z : Hid (w.heap.size ≤ w1.heap.size) := F1.out.size
  clear n2 F1
  generalize w1.heap.size = g at *
  go_wp2_with (refine wpList_storeBlk rfl 44 (.tmp 3) _ rfl g RV rfl rfl _ _ B2.out HI.out HZ.out HO.out ?_)
  intro w3 b3 f3
  have JF : Hid (Fr Nothing w w3) := F2.out.then_ f3 (fun i hi e => by have e' : i = g := e; have := Z.out; omega)
  have hcv := RA.out b3
  clear b3 f3
  go_wp2
  go_ret
  exact ⟨rfl, JF.out⟩

set_option maxRecDepth 100000 in
set_option maxHeartbeats 1000000 in
theorem rcheck_any (s : ByteArray) (w : World) (hs : s.size ≤ 1099511627776) : Calls Tryd.prog 41 #[.string s] w (SameIn w (.string ⟨(chk8 (strL s)).toArray⟩)) := by
  have CS := Lib.hid (refSum_any s w hs)
  have hl : (shaL (txL s)).length = 32 := shaL_length _
  have HI : Hid ((Tryd.prog.info? 43).map (·.size) = some ((shaL (txL s)).map bvI).toArray.size) := by rw [List.size_toArray, List.length_map, hl]; exact info32
  have HZ : Hid (zero32c.size = ((shaL (txL s)).map bvI).toArray.size) := by
    have : ((shaL (txL s)).map bvI).toArray.size = 32 := by rw [List.size_toArray, List.length_map, hl]
    simp only [Hid]
    rw [this]
    rfl
  have HO : Hid (((shaL (txL s)).map bvI).toArray.all (·.oneCell') = true) := bytes_one _
  have HL := Lib.hid hl
  unfold chk8
  change Calls _ _ _ _ (SameIn w (.string ⟨((shaL (txL s)).take 8).toArray⟩))
  clear hl
  generalize shaL (txL s) = d at *
  go_enter Tryd.func41, Tryd.ntmps41
  go_wp2_with fail
  refine CS.out.mono ?_
  rintro e w1 ⟨rfl, f1⟩
  have F1 := Lib.hid f1
  clear f1 CS
  have RA : Hid (∀ {w' : World} {g : Nat} {t : TypeId}, Blk w' g t (d.map bvI).toArray → (convert 42 9 (.slice (some ⟨g, 0, none⟩) 8 32)).run Tryd.prog w' = .ok (.string ⟨(d.take 8).toArray⟩) w') := fun hb =>
    run_str (P := Tryd.prog) _ 42 9 5 Tryd.underlying42 Tryd.underlying5 Tryd.underlying9 _ _ 8 32 _ (rd_take8 hb HL.out)
  generalize hD : (d.map bvI).toArray = RV at *
  clear hD
  go_wp2_with (refine wpList_allocBlk rfl 43 rfl zero32 zv32 zero32c rfl ?_)
  intro w2 n2
  have B2 := Lib.hid n2.blk
  have F2 := Lib.hid (F1.out.trans n2.fr)
  have Z : Hid (w.heap.size ≤ w1.heap.size) := F1.out.size
  clear n2 F1
  generalize w1.heap.size = g at *
  go_wp2_with (refine wpList_storeBlk rfl 43 (.tmp 3) _ rfl g RV rfl rfl _ _ B2.out HI.out HZ.out HO.out ?_)
  intro w3 b3 f3
  have JF : Hid (Fr Nothing w w3) := F2.out.then_ f3 (fun i hi e => by have e' : i = g := e; have := Z.out; omega)
  have hcv := RA.out b3
  clear b3 f3
  go_wp2
  go_ret
  exact ⟨rfl, JF.out⟩

def magic : List UInt8 := [127, 82, 80, 76]
def isImg (l : List UInt8) : Bool := decide (l.take 4 = magic)
theorem isImg_prefix (l : List UInt8) : Lib.hasPrefix l magic = isImg l := by
  unfold isImg Lib.hasPrefix
  rw [Bool.eq_iff_iff, List.isPrefixOf_iff_prefix, decide_eq_true_eq]
  constructor
  · rintro ⟨r, rfl⟩
    rfl
  · intro h
    exact ⟨l.drop 4, by rw [← h]; exact List.take_append_drop 4 l⟩

set_option maxRecDepth 100000 in
theorem IsImage_any (s : ByteArray) (w : World) : Calls Tryd.prog 24 #[.string s] w fun e w' => e = .returned (.bool (isImg (strL s))) ∧ w = w' := by
  have CP := Lib.hid (Tryd.strings_HasPrefix s ⟨#[127, 82, 80, 76]⟩ w)
  rw [show Lib.hasPrefix s.data.toList (⟨#[127, 82, 80, 76]⟩ : ByteArray).data.toList = isImg (strL s) from isImg_prefix _] at CP
  go_enter Tryd.func24, Tryd.ntmps24
  go_wp2_with fail
  refine CP.out.mono ?_
  rintro e w1 ⟨rfl, rfl⟩
  go_wp2
  go_ret
  exact ⟨rfl, rfl⟩
end Go.Proofs.YtfdcmjjafngonaaDoor
