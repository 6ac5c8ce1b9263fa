/- MetaDecodes: the meta of bytes, by the program and by the reference. -/
import Derived.Test.YtdaoiimjflplhaaLawM
import Derived.Test.YtdaoiimjflplhaaRefMetaD
namespace Go.Proofs.Ytdaoiimjflplhaa
open Go.RowKit Go.Shelf
set_option linter.unusedVariables false

theorem text70d_size (s : ByteArray) : (s.extract 0 (min (s.size : Int) 70).toNat).size ≤ 70 := by
  rw [ByteArray.size_extract]
  omega

set_option maxRecDepth 100000 in
set_option maxHeartbeats 4000000 in
theorem metaDecodes_walk (s : ByteArray) (w : World) (hs : s.size ≤ maxLen) :
    Calls Try.prog 4 #[.string s] w fun e w' => e = .returned (.bool true) ∧ Below w.heap.size w w' := by
  unfold maxLen at hs
  have H0 := Lib.hid (fun w => shown4_any w)
  obtain ⟨x, hx⟩ : ∃ x, s.extract 0 (min (s.size : Int) 70).toNat = x := ⟨_, rfl⟩
  have hxs : x.size ≤ 70 := by rw [← hx]; exact text70d_size s
  obtain ⟨c, hc⟩ := mdecV_four x.data.toList
  have h1 := fun W => mdecode_any x W (by unfold maxLen; omega)
  have h2 := fun W => rmdecode_any x W (by unfold maxLen; omega)
  obtain ⟨⟨t, r, h, f⟩, hq⟩ : ∃ q, mdec4 x.data.toList = q := ⟨_, rfl⟩
  rw [hc, hq] at h1 h2
  unfold m4V metaV at h1 h2
  dsimp only at h1 h2
  have H1 := Lib.hid h1
  have H2 := Lib.hid h2
  clear h1 h2 hc hq hxs
  go_enter Try.func4, Try.ntmps4
  go_wp2_with fail
  refine (H0.out _).mono ?_
  rintro e w1 ⟨rfl, hb1⟩
  have G1 := Lib.hid hb1
  clear hb1
  go_wp2_with fail
  refine (H1.out _).mono ?_
  rintro e w2 ⟨rfl, hb2⟩
  have G2 := Lib.hid (bl_tr G1.out hb2)
  clear hb2
  go_wp2_with fail
  refine (H2.out _).mono ?_
  rintro e w3 ⟨rfl, hb3⟩
  have b3 := (Blk.new w2 25 #[.int .u64 (t : Int), .int .u32 (r : Int), .int .u32 (h : Int), .int .u32 (f : Int)]).below hb3 (by simp)
  have c0 : w3.cell? ⟨w2.heap.size, 0, none⟩ = some (.int .u64 (t : Int)) := b3.cell 0
  have c1 : w3.cell? ⟨w2.heap.size, 1, none⟩ = some (.int .u32 (r : Int)) := b3.cell 1
  have c2 : w3.cell? ⟨w2.heap.size, 2, none⟩ = some (.int .u32 (h : Int)) := b3.cell 2
  have c3 : w3.cell? ⟨w2.heap.size, 3, none⟩ = some (.int .u32 (f : Int)) := b3.cell 3
  have hlt := b3.lt
  have G3 := Lib.hid (bl_tr (bl_al G2.out _) hb3)
  clear b3 hb3
  go_wp2
  go_ret
  exact ⟨rfl, bl_al G3.out _⟩
end Go.Proofs.Ytdaoiimjflplhaa
