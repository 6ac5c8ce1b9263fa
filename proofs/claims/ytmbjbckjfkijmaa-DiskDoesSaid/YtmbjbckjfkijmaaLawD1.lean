/- The helpers of the laws of package disk: text, cut, shown. -/
import Derived.Test.YtmbjbckjfkijmaaDiskG
import Derived.Test.YtmbjbckjfkijmaaDiskB2
import Derived.Test.YtmbjbckjfkijmaaFrom
namespace Go.Proofs.Ytmbjbckjfkijmaa
open Go.RowKit Go.Shelf

/-- A text's first seventy bytes. -/
def text70 (s : ByteArray) : ByteArray := mk (s.data.toList.take 70)
theorem text70_size (s : ByteArray) : (text70 s).size ≤ 70 := by
  unfold text70
  rw [mk_size, List.length_take]
  omega

set_option maxHeartbeats 400000 in
theorem text_any (s : ByteArray) (w : World) (hs : s.size ≤ maxLen) :
    Calls Try.prog 18 #[.string s] w fun e w' => e = .returned (.string (text70 s)) ∧ Below w.heap.size w w' := by
  unfold maxLen at hs
  by_cases h : s.size ≤ 70
  · go_enter Try.func18, Try.ntmps18
    go_wp2
    go_ret
    refine ⟨ret_str ?_, bl_re _⟩
    unfold text70
    rw [mk_toList]
    exact (List.take_of_length_le (by rw [ba_length]; omega)).symm
  · go_enter Try.func18, Try.ntmps18
    go_wp2
    go_ret
    refine ⟨ret_str ?_, bl_re _⟩
    unfold text70
    rw [mk_toList]
    show (s.extract 0 70).data.toList = _
    simp

def dab : List UInt8 := [97, 98]
def dxyz : List UInt8 := [120, 121, 122]

set_option maxRecDepth 100000 in
set_option maxHeartbeats 2000000 in
theorem shown_any (w : World) : Calls Try.prog 15 #[] w fun e w' => e = .returned (.bool true) ∧ Below w.heap.size w w' := by
  have h1 := new_yes (From w.heap.size []) 2 w (by omega) (by omega) (fun k hk => ⟨hk, by simp⟩)
  have h2 := fun g w1 (h : Held (From w.heap.size []) w1 g (Dk.new 2)) (hb : w.heap.size ≤ w1.heap.size) => write_ok (From w.heap.size []) g (Dk.new 2) 0 ⟨#[97, 98]⟩ w1 h (by decide) (by decide) (by decide) (by decide) (fun k hk => ⟨by omega, by simp⟩)
  obtain ⟨D1, hD1⟩ : ∃ D1 : Dk, { Dk.new 2 with U := (Dk.new 2).U ++ [(0, pad (ByteArray.mk #[97, 98]).data.toList)], N := (Dk.new 2).N + 1 } = D1 := ⟨_, rfl⟩
  rw [hD1] at h2
  have h3 := fun g w1 (h : Held (From w.heap.size []) w1 g D1) => sync_any (From w.heap.size []) g D1 w1 h (by rw [← hD1]; decide)
  obtain ⟨D2, hD2⟩ : ∃ D2 : Dk, { S := Dk.puts D1.S D1.U (List.replicate D1.U.length 64), U := [], N := D1.N + 1 } = D2 := ⟨_, rfl⟩
  rw [hD2] at h3
  have hS2 : D2.S.length = 2 := by rw [← hD2, ← hD1]; dsimp only; rw [puts_length]; simp [Dk.new]
  have h4 := fun g w1 (h : Held (From w.heap.size []) w1 g D2) (hb : w.heap.size ≤ w1.heap.size) => write_ok (From w.heap.size []) g D2 0 ⟨#[120, 121, 122]⟩ w1 h (by omega) (by decide) (by rw [← hD2]; simp) (by rw [← hD2, ← hD1]; simp [Dk.new]) (fun k hk => ⟨by omega, by simp⟩)
  obtain ⟨D3, hD3⟩ : ∃ D3 : Dk, { D2 with U := D2.U ++ [(0, pad (ByteArray.mk #[120, 121, 122]).data.toList)], N := D2.N + 1 } = D3 := ⟨_, rfl⟩
  rw [hD3] at h4
  have h5 := fun g w1 (h : Held (From w.heap.size []) w1 g D3) (hb : w.heap.size ≤ w1.heap.size) => crash_ok (From w.heap.size [w1.heap.size]) g D3 (some ⟨w1.heap.size, 0, none⟩) 1 [1] (w1.alloc (.cells #[.int .i64 1] 3))
    ((From.sub h _ (Nat.le_refl _)).alloc _) (by simp) (fun k x hk => by
      cases k with
      | succ k => simp at hk
      | zero => simp at hk; subst hk; exact ⟨⟨w1.heap.size, 0, none⟩, rfl, by simp, (Blk.new w1 3 #[.int .i64 1]).cell 0⟩) (by rintro a ha _ ⟨_, h2⟩; obtain rfl := Option.some.inj ha; simp at h2) (by rw [← hD3, ← hD2]; simp)
  obtain ⟨D4, hD4⟩ : ∃ D4 : Dk, { D3 with S := Dk.puts D3.S D3.U (kept [1]), U := [] } = D4 := ⟨_, rfl⟩
  rw [hD4] at h5
  have hS4 : D4.S.length = 2 := by rw [← hD4, ← hD3]; dsimp only; rw [puts_length]; exact hS2
  have h6 := fun g B w1 (h : Held (From w.heap.size [B]) w1 g D4) => read_ok (From w.heap.size [B]) g D4 0 w1 h (by omega)
  have hL : D4.rd 0 = 120 :: 98 :: List.replicate 62 0 := by rw [← hD4, ← hD3, ← hD2, ← hD1]; decide +kernel
  rw [hL] at h6
  have h7 := fun w => new_no 0 w (by omega)
  obtain ⟨sl, hsl⟩ : ∃ sl, mk (120 :: 98 :: List.replicate 62 0) = sl := ⟨_, rfl⟩
  rw [hsl] at h6
  have z1 : sl.size = 64 := by rw [← hsl]; rfl
  have z2 : ((sl.extract 0 3).toList == [120, 98, 0]) = true := by rw [ByteArray.toList_eq, ← hsl]; decide +kernel
  clear hL hS4 hS2 hD1 hD2 hD3 hD4 hsl
  have H1 := Lib.hid h1
  have H2 := Lib.hid h2
  have H3 := Lib.hid h3
  have H4 := Lib.hid h4
  have H5 := Lib.hid h5
  have H6 := Lib.hid h6
  have H7 := Lib.hid h7
  clear h1 h2 h3 h4 h5 h6 h7
  go_enter Try.func15, Try.ntmps15
  go_wp2_with fail
  refine H1.out.mono ?_
  rintro e w1 ⟨g, rfl, hg, hh1, hb1⟩
  have G1 := Lib.hid (And.intro hh1 hb1)
  have hz1 := hb1.size
  clear hh1 hb1
  go_wp2_with fail
  refine (H2.out g w1 G1.out.1 hz1).mono ?_
  rintro e w2 ⟨rfl, hh2, hc2⟩
  have G2 := Lib.hid (And.intro hh2 hc2)
  have hz2 := hc2.size
  clear hh2 hc2
  go_wp2_with fail
  refine (H3.out g w2 G2.out.1).mono ?_
  rintro e w3 ⟨rfl, hh3, hc3⟩
  have G3 := Lib.hid (And.intro hh3 hc3)
  have hz3 := hc3.size
  clear hh3 hc3
  go_wp2_with fail
  refine (H4.out g w3 G3.out.1 (by omega)).mono ?_
  rintro e w4 ⟨rfl, hh4, hc4⟩
  have G4 := Lib.hid (And.intro hh4 hc4)
  have hz4 := hc4.size
  clear hh4 hc4
  go_wp2_with fail
  refine (H5.out g w4 G4.out.1 (by omega)).mono ?_
  rintro e w5 ⟨rfl, hh5, hc5⟩
  have G5 := Lib.hid (And.intro hh5 hc5)
  clear hh5 hc5
  go_wp2_with fail
  refine (H6.out g _ w5 G5.out.1).mono ?_
  rintro e w6 ⟨rfl, hb6⟩
  have G6 := Lib.hid hb6
  clear hb6
  go_wp2_with fail
  refine (H7.out w6).mono ?_
  rintro e w7 ⟨rfl, hb7⟩
  have G7 := Lib.hid hb7
  clear hb7
  go_wp2
  go_ret
  refine ⟨rfl, ?_⟩
  have c2 := G2.out.2.below (fun k hk => hk.1) hz1
  have c3 := G3.out.2.below (fun k hk => hk.1) (by omega)
  have c4 := G4.out.2.below (fun k hk => hk.1) (by omega)
  have c5 := G5.out.2.below (B := w.heap.size) (fun k hk => hk.1) (by simp; omega)
  have hz5 := G5.out.2.size
  rw [World.size_alloc] at hz5
  have hz6 := G6.out.size
  exact ((((((G1.out.2.trans c2).trans c3).trans c4).trans ((bl_al (bl_re _) _).mono (by omega))).trans c5).trans (G6.out.mono (by omega))).trans (G7.out.mono (by omega))
end Go.Proofs.Ytmbjbckjfkijmaa
