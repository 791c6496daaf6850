/- State: the clock's name is valid: written by genSaD.py. -/
import Derived.Test.YtpnchdgplpdefaaDoorDeSaB
namespace Go.Proofs.YtpnchdgplpdefaaDoor
open Go.RowKit
def str (l : List UInt8) : ByteArray := ⟨l.toArray⟩
structure Usa where
 word : ByteArray
 owner : Bool
 number : Bool
 index : Bool
 text : Bool
 most : Int
def Usa.cells (u : Usa) : List Value := [.string u.word, .bool u.owner, .bool u.number, .bool u.index, .bool u.text, .int .i64 u.most]
def usaL : List Usa := [
 ⟨str [], false, false, false, false, 0⟩,
 ⟨str [112, 114, 111, 99, 101, 115, 115], true, false, false, false, 0⟩,
 ⟨str [114, 101, 103, 105, 115, 116, 101, 114, 115], true, false, false, false, 0⟩,
 ⟨str [112, 97, 103, 101], true, false, true, false, 63⟩,
 ⟨str [116, 97, 98, 108, 101], true, false, false, false, 0⟩,
 ⟨str [99, 111, 117, 110, 116, 101, 114], true, false, false, false, 0⟩,
 ⟨str [112, 101, 110, 100, 105, 110, 103], true, false, false, false, 0⟩,
 ⟨str [110, 111, 100, 101], true, true, false, false, 0⟩,
 ⟨str [98, 108, 111, 99, 107], true, true, true, false, 63⟩,
 ⟨str [101, 110, 116, 114, 121], true, true, false, true, 0⟩,
 ⟨str [108, 105, 115, 116, 105, 110, 103], true, true, false, false, 0⟩,
 ⟨str [112, 105, 112, 101], true, true, false, false, 0⟩,
 ⟨str [108, 111, 99, 107], true, true, false, false, 0⟩,
 ⟨str [116, 101, 114, 109, 105, 110, 97, 108], false, true, false, false, 0⟩,
 ⟨str [97, 99, 99, 111, 117, 110, 116], false, false, false, true, 0⟩,
 ⟨str [99, 108, 111, 99, 107], false, false, false, false, 0⟩,
 ⟨str [112, 111, 114, 116], false, true, false, false, 0⟩,
 ⟨str [98, 111, 120], false, false, false, true, 0⟩,
 ⟨str [111, 117, 116], true, true, true, false, 1073741824⟩,
 ⟨str [115, 104, 101, 108, 108], true, false, false, false, 0⟩,
 ⟨str [101, 112, 111, 99, 104], false, false, false, false, 0⟩]
def usaClock : List Value := [.string (str [99, 108, 111, 99, 107]), .bool false, .bool false, .bool false, .bool false, .int .i64 0]
structure UsaT (w : World) : Prop where
 row : ∀ k u, usaL[k]? = some u → ∀ j v, u.cells[j]? = some v → w.cell? ⟨0, k * 6 + j, none⟩ = some v
theorem UsaT.fr0 {w w' : World} (h : UsaT w) (hf : Fr Nothing w w') : UsaT w' := ⟨fun k u hk j v hv => hf.cellSome (h.row k u hk j v hv) (fun x => x)⟩
theorem UsaT.clock {w : World} (h : UsaT w) : ∀ j v, usaClock[j]? = some v → w.cell? ⟨0, 90 + j, none⟩ = some v := fun j v hv => h.row 15 _ rfl j v hv
theorem isKind_clock (w : World) : Calls Tryd.prog 54 #[.int .i64 15] w (SameW w (.bool true)) := by
 go_enter Tryd.func54, Tryd.ntmps54
 go_wp2
 go_ret
 exact ⟨rfl, rfl⟩
def usaZ : Value := .agg #[.string ByteArray.empty, .bool false, .bool false, .bool false, .bool false, .int .i64 0]
theorem zvUsage (w : World) : (zeroValue 110).run Tryd.prog w = .ok usaZ w := by kernel_rfl
theorem infoUsage : (Tryd.prog.info? 110).map (·.size) = some 6 := by kernel_rfl
theorem usa_one : usaClock.toArray.all (·.oneCell') = true := by kernel_rfl
set_option maxRecDepth 100000 in
set_option maxHeartbeats 1000000 in
theorem Check_clock (w : World) (hU : UsaT w) : Calls Tryd.prog 30 #[.agg clockC] w (Same' w (.int .i64 0)) := by
 have HU := Lib.hid hU
 have CK := Lib.hid isKind_clock
 have O := Lib.hid usa_one
 clear hU
 go_enter Tryd.func30, Tryd.ntmps30
 go_wp2_with (refine wpList_boxBlk rfl 36 (.tmp 0) rfl clockC rfl ?_)
 intro w1 n1
 have F1 := Lib.hid n1.fr
 have NB0 := Lib.hid n1.blk
 clear n1
 generalize w.heap.size = gb at *
 have NB : Hid (Blk w1 gb 36 clockC) := NB0.out
 clear NB0
 have c0 : w1.cell? ⟨gb, 0, none⟩ = some (.int .i64 15) := NB.out.cell 0
 go_wp2_with fail
 refine (CK.out _).mono ?_
 rintro e w' ⟨rfl, rfl⟩
 go_wp2_with (refine wpList_load_add rfl 110 (.tmp 10) rfl ⟨0, 90, none⟩ rfl usaClock _ ?hcc Tryd.underlying110 rfl infoUsage (Held.go ?hold))
 case hcc => exact fun j x hx => by rw [Addr.add_mid]; exact F1.out.cellSome (HU.out.clock j x hx) (fun x => x)
 unfold Held
 go_wp2_with (refine wpList_allocBlk rfl 110 rfl usaZ zvUsage #[.string ByteArray.empty, .bool false, .bool false, .bool false, .bool false, .int .i64 0] rfl ?_)
 intro w2 n2
 have N2 := Lib.hid n2
 clear n2
 generalize hgu : w1.heap.size = gu at *
 have HGU := Lib.hid hgu
 clear hgu
 have U2 : Hid (Blk w2 gu 110 #[.string ByteArray.empty, .bool false, .bool false, .bool false, .bool false, .int .i64 0]) := by have h := N2.out.blk; rw [HGU.out] at h; exact h
 go_wp2_with (refine wpList_storeBlk rfl 110 (.tmp 3) _ rfl gu usaClock.toArray rfl rfl _ _ U2.out infoUsage rfl O.out ?_)
 intro w3 b3 f3
 have B3 := Lib.hid b3
 have F13 : Hid (Fr Nothing w1 w3) := N2.out.fr.then_ f3 (fun i hi e => by have e' : i = gu := e; have := HGU.out; omega)
 have F3 := Lib.hid (F1.out.trans F13.out)
 have u1 : w3.cell? ⟨gu, 1, none⟩ = some (.bool false) := B3.out.cell 1
 have u2 : w3.cell? ⟨gu, 2, none⟩ = some (.bool false) := B3.out.cell 2
 have u3 : w3.cell? ⟨gu, 3, none⟩ = some (.bool false) := B3.out.cell 3
 have u4 : w3.cell? ⟨gu, 4, none⟩ = some (.bool false) := B3.out.cell 4
 have u5 : w3.cell? ⟨gu, 5, none⟩ = some (.int .i64 0) := B3.out.cell 5
 have NB3 := Lib.hid (NB.out.fr F13.out (fun x => x))
 have n1 : w3.cell? ⟨gb, 1, none⟩ = some (.string ByteArray.empty) := NB3.out.cell 1
 have n2 : w3.cell? ⟨gb, 2, none⟩ = some (.int .i64 0) := NB3.out.cell 2
 have n3 : w3.cell? ⟨gb, 3, none⟩ = some (.int .i64 0) := NB3.out.cell 3
 have n4 : w3.cell? ⟨gb, 4, none⟩ = some (.string ByteArray.empty) := NB3.out.cell 4
 clear b3 f3 N2 HGU U2 F13 c0 NB F1
 go_wp2
 go_ret
 exact ⟨rfl, F3.out⟩
end Go.Proofs.YtpnchdgplpdefaaDoor
