/- DiskNone: a nil disk has nothing. -/
import Derived.Test.YtmbjbckjfkijmaaLawD1
namespace Go.Proofs.Ytmbjbckjfkijmaa
open Go.RowKit Go.Shelf

set_option maxRecDepth 100000 in
set_option maxHeartbeats 4000000 in
theorem diskNone_walk (d c : Int) (s : ByteArray) (so : Option Addr) (n cap : Nat) (w : World) :
    Calls Try.prog 8 #[.agg #[.int .i64 d, .int .i64 c, .string s, .slice so n cap]] w fun e w' => e = .returned (.bool true) ∧ Below w.heap.size w w' := by
  have H0 := Lib.hid (shown_any (w.alloc (.cells #[.int .i64 d, .int .i64 c, .string s, .slice so n cap] 31)))
  have H1 := Lib.hid (fun w => read_nil c w)
  have H2 := Lib.hid (fun w => write_nil c s w)
  have H3 := Lib.hid (fun w => sync_nil w)
  have H4 := Lib.hid (fun w => crash_nil so n cap w)
  have H5 := Lib.hid (fun w => unsynced_nil w)
  have H6 := Lib.hid (fun w => sectors_nil w)
  have H7 := Lib.hid (fun w => ops_nil w)
  have b0 : Blk (w.alloc (.cells #[.int .i64 d, .int .i64 c, .string s, .slice so n cap] 31)) w.heap.size 31 #[.int .i64 d, .int .i64 c, .string s, .slice so n cap] := Blk.new w _ _
  have B0 := Lib.hid b0
  clear b0
  go_enter Try.func8, Try.ntmps8
  go_wp2_with fail
  refine H0.out.mono ?_
  rintro e w1 ⟨rfl, hb1⟩
  have b1 := B0.out.below hb1 (by simp)
  have c11 : w1.cell? ⟨w.heap.size, 1, none⟩ = some (.int .i64 c) := b1.cell 1
  have hB1 : Below w.heap.size w w1 := (bl_al (bl_re w) _).trans (hb1.mono (by simp))
  have y1 := hB1.size
  have G1 := Lib.hid (And.intro b1 hB1)
  clear hb1 b1 hB1
  go_wp2_with fail
  refine (H1.out w1).mono ?_
  rintro e w2 ⟨rfl, hb2⟩
  have b2 := G1.out.1.below hb2 G1.out.1.lt
  have c21 : w2.cell? ⟨w.heap.size, 1, none⟩ = some (.int .i64 c) := b2.cell 1
  have c22 : w2.cell? ⟨w.heap.size, 2, none⟩ = some (.string s) := b2.cell 2
  have G2 := Lib.hid (And.intro b2 (bl_tr G1.out.2 hb2))
  clear hb2 b2 c11
  have ze : (((mk []).toList : List UInt8) == []) = true := by rw [ByteArray.toList_eq]; rfl
  have zd : ((ByteArray.empty).toList == []) = true := by rw [ByteArray.toList_eq]; rfl
  go_wp2_with fail
  refine (H2.out w2).mono ?_
  rintro e w3 ⟨rfl, hb3⟩
  have b3 := G2.out.1.below hb3 G2.out.1.lt
  have G3 := Lib.hid (And.intro b3 (bl_tr G2.out.2 hb3))
  clear hb3 b3 c21 c22
  go_wp2_with fail
  refine (H3.out w3).mono ?_
  rintro e w4 ⟨rfl, hb4⟩
  have b4 := G3.out.1.below hb4 G3.out.1.lt
  have c43 : w4.cell? ⟨w.heap.size, 3, none⟩ = some (.slice so n cap) := b4.cell 3
  have G4 := Lib.hid (And.intro b4 (bl_tr G3.out.2 hb4))
  clear hb4 b4
  go_wp2_with fail
  refine (H4.out w4).mono ?_
  rintro e w5 ⟨rfl, hb5⟩
  have G5 := Lib.hid (bl_tr G4.out.2 hb5)
  clear hb5 c43
  go_wp2_with fail
  refine (H5.out w5).mono ?_
  rintro e w6 ⟨rfl, hb6⟩
  have G6 := Lib.hid (bl_tr G5.out hb6)
  clear hb6
  go_wp2_with fail
  refine (H6.out w6).mono ?_
  rintro e w7 ⟨rfl, hb7⟩
  have G7 := Lib.hid (bl_tr G6.out hb7)
  clear hb7
  go_wp2_with fail
  refine (H7.out w7).mono ?_
  rintro e w8 ⟨rfl, hb8⟩
  go_wp2
  go_ret
  exact ⟨rfl, bl_tr G7.out hb8⟩
end Go.Proofs.Ytmbjbckjfkijmaa
