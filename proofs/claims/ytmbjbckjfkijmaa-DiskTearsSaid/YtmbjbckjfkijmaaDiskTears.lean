/- DiskTears: a write of which so many bytes are kept is its beginning, and what was there. -/
import Derived.Test.YtmbjbckjfkijmaaLawD1
namespace Go.Proofs.Ytmbjbckjfkijmaa
open Go.RowKit Go.Shelf
set_option linter.unusedVariables false

theorem wf_i64 {n : Int} (h : (Lit.int .i64 n).wf = true) : -9223372036854775808 ≤ n ∧ n ≤ 9223372036854775807 := by
  simp [Lit.wf] at h
  exact h
/-- A text's first sixty-four bytes, as the program cuts it. -/
theorem cut64 (s : ByteArray) : ∃ (m : Nat) (c : ByteArray), min (s.size : Int) 64 = (m : Int) ∧ m ≤ s.size ∧ m ≤ 64 ∧ s.extract 0 m = c ∧ c.size = m := by
  refine ⟨min s.size 64, s.extract 0 (min s.size 64), by omega, by omega, by omega, rfl, ?_⟩
  simp

theorem put_whole (S : List (List UInt8)) (p : Nat × List UInt8) (h : p.2.length = 64) (hS : ∀ s ∈ S, s.length = 64) : Dk.put S p 64 = S.set p.1 p.2 := by
  unfold Dk.put
  by_cases hi : p.1 < S.length
  · rw [List.getElem?_eq_getElem hi, Option.getD_some, List.drop_eq_nil_of_le (by rw [hS _ (List.getElem_mem hi)]; exact Nat.le_refl _), List.append_nil, List.take_of_length_le (by omega)]
  · rw [List.set_eq_of_length_le (by omega), List.set_eq_of_length_le (by omega)]

theorem ints_one (w : World) (n : Int) : IntsAt (w.alloc (.cells #[.int .i64 n] 3)) (some ⟨w.heap.size, 0, none⟩) [n] := fun k x hk => by
  cases k with
  | succ k => simp at hk
  | zero => simp at hk; subst hk; exact ⟨w.heap.size, 0, rfl, by simp, (Blk.new w 3 #[.int .i64 n]).cell 0⟩

set_option maxRecDepth 100000 in
set_option maxHeartbeats 4000000 in
theorem diskTears_walk (s t : ByteArray) (n : Int) (hs : s.size ≤ maxLen) (ht : t.size ≤ maxLen) (hn : -9223372036854775808 ≤ n ∧ n ≤ 9223372036854775807) (w : World) :
    Calls Try.prog 4 #[.string s, .string t, .int .i64 n] w fun e w' => e = .returned (.bool true) ∧ Below w.heap.size w w' := by
  obtain ⟨m1, sa, hm1, hl1, hl1', he1, hz1⟩ := cut64 s
  obtain ⟨m2, ta, hm2, hl2, hl2', he2, hz2⟩ := cut64 t
  have hA := pad_length sa.data.toList (by rw [ba_length]; omega)
  have hB := pad_length ta.data.toList (by rw [ba_length]; omega)
  have n1 := fun (ats : Array TypeId) (ty : TypeId) (w : World) => run_min_two (P := Try.prog) _ _ _ hm1 ats ty w
  have n2 := fun (ats : Array TypeId) (ty : TypeId) (w : World) => run_min_two (P := Try.prog) _ _ _ hm2 ats ty w
  unfold maxLen at hs ht
  have h0 := shown_any w
  have h1 := fun w1 (hb : w.heap.size ≤ w1.heap.size) => new_yes (From w.heap.size []) 1 w1 (by omega) (by omega) (fun k hk => ⟨by omega, by simp⟩)
  have h2 := fun g w1 (h : Held (From w.heap.size []) w1 g (Dk.new 1)) (hb : w.heap.size ≤ w1.heap.size) => write_ok (From w.heap.size []) g (Dk.new 1) 0 sa w1 h (by decide) (by omega) (by decide) (by decide) (fun k hk => ⟨by omega, by simp⟩)
  obtain ⟨D1, hD1⟩ : ∃ D1 : Dk, { Dk.new 1 with U := (Dk.new 1).U ++ [(0, pad sa.data.toList)], N := (Dk.new 1).N + 1 } = D1 := ⟨_, rfl⟩
  rw [hD1] at h2
  have h2r := fun g w1 (h : Held (From w.heap.size []) w1 g D1) => read_ok (From w.heap.size []) g D1 0 w1 h (by rw [← hD1]; simp [Dk.new])
  have hr1 : D1.rd 0 = pad sa.data.toList := by rw [← hD1]; rfl
  rw [hr1] at h2r
  have h3 := fun g w1 (h : Held (From w.heap.size []) w1 g D1) => sync_any (From w.heap.size []) g D1 w1 h (by rw [← hD1]; simp [Dk.new])
  obtain ⟨D2, hD2⟩ : ∃ D2 : Dk, { S := Dk.puts D1.S D1.U (List.replicate D1.U.length 64), U := [], N := D1.N + 1 } = D2 := ⟨_, rfl⟩
  rw [hD2] at h3
  have hS2 : D2.S = [pad sa.data.toList] := by
    rw [← hD2, ← hD1]
    show Dk.put [List.replicate 64 0] (0, pad sa.data.toList) 64 = _
    rw [put_whole _ _ hA (by intro s hs; rw [List.mem_singleton.1 hs, List.length_replicate])]
    rfl
  have h4 := fun g w1 (h : Held (From w.heap.size []) w1 g D2) (hb : w.heap.size ≤ w1.heap.size) => write_ok (From w.heap.size []) g D2 0 ta w1 h (by rw [hS2]; simp) (by omega) (by rw [← hD2]; simp) (by rw [← hD2, ← hD1]; simp [Dk.new]) (fun k hk => ⟨by omega, by simp⟩)
  obtain ⟨D3, hD3⟩ : ∃ D3 : Dk, { D2 with U := D2.U ++ [(0, pad ta.data.toList)], N := D2.N + 1 } = D3 := ⟨_, rfl⟩
  rw [hD3] at h4
  have hS3 : D3.S = [pad sa.data.toList] := by rw [← hD3]; exact hS2
  have hU3 : D3.U = [(0, pad ta.data.toList)] := by rw [← hD3, ← hD2]; rfl
  have h4r := fun g w1 (h : Held (From w.heap.size []) w1 g D3) => read_ok (From w.heap.size []) g D3 0 w1 h (by rw [hS3]; simp)
  have hr3 : D3.rd 0 = pad ta.data.toList := by unfold Dk.rd; rw [hU3, hS3]; rfl
  rw [hr3] at h4r
  clear hr1 hr3 hD1 hD2 hD3 hS2
  generalize pad sa.data.toList = A at *
  generalize pad ta.data.toList = B at *
  obtain ⟨was, hwas⟩ : ∃ was, mk A = was := ⟨_, rfl⟩
  obtain ⟨now, hnow⟩ : ∃ now, mk B = now := ⟨_, rfl⟩
  rw [hwas] at h2r
  rw [hnow] at h4r
  have z1 : was.size = 64 := by rw [← hwas, mk_size, hA]
  have z2 : now.size = 64 := by rw [← hnow, mk_size, hB]
  have H0 := Lib.hid h0
  have H1 := Lib.hid h1
  have H2 := Lib.hid h2
  have H2r := Lib.hid h2r
  have H3 := Lib.hid h3
  have H4 := Lib.hid h4
  have H4r := Lib.hid h4r
  have HX := Lib.hid (And.intro hwas (And.intro hnow (And.intro hS3 (And.intro hU3 (And.intro hA hB)))))
  clear h0 h1 h2 h2r h3 h4 h4r hwas hnow hS3 hU3 hA hB hm1 hm2
  by_cases hr : n < 0 ∨ 64 < n
  · have hr2 : n < 0 ∨ ¬ n < 0 ∧ 64 < n := by omega
    have h5 := fun g w1 (h : Held (From w.heap.size []) w1 g D3) => crash_no (From w.heap.size []) g D3 (some ⟨w1.heap.size, 0, none⟩) 1 [n] (w1.alloc (.cells #[.int .i64 n] 3)) (h.alloc _) (by simp [maxLen]) (by simpa using hn) (ints_one w1 n)
      (.inr (by simp; omega))
    have H5 := Lib.hid h5
    clear h5 hr hn
    rcases hr2 with d | ⟨d, d'⟩
    · have d1 : decide (n < 0) = true := decide_eq_true d
      go_enter Try.func4, Try.ntmps4
      go_wp2_with fail
      refine H0.out.mono ?_
      rintro e w1 ⟨rfl, hb1⟩
      have G1 := Lib.hid hb1
      have y1 := hb1.size
      clear hb1
      go_wp2_with fail
      refine (H1.out w1 y1).mono ?_
      rintro e w2 ⟨g, rfl, hg, hh2, hb2⟩
      have G2 := Lib.hid (And.intro hh2 hb2)
      have y2 := hb2.size
      clear hh2 hb2
      go_wp2_with fail
      refine (H2.out g w2 G2.out.1 (by omega)).mono ?_
      rintro e w3 ⟨rfl, hh3, hc3⟩
      have G3 := Lib.hid (And.intro hh3 hc3)
      have y3 := hc3.size
      clear hh3 hc3
      go_wp2_with fail
      refine (H2r.out g w3 G3.out.1).mono ?_
      rintro e w4 ⟨rfl, hb4⟩
      have G4 := Lib.hid (And.intro (G3.out.1.below hb4) hb4)
      have y4 := hb4.size
      clear hb4
      go_wp2_with fail
      refine (H3.out g w4 G4.out.1).mono ?_
      rintro e w5 ⟨rfl, hh5, hc5⟩
      have G5 := Lib.hid (And.intro hh5 hc5)
      have y5 := hc5.size
      clear hh5 hc5
      go_wp2_with fail
      refine (H4.out g w5 G5.out.1 (by omega)).mono ?_
      rintro e w6 ⟨rfl, hh6, hc6⟩
      have G6 := Lib.hid (And.intro hh6 hc6)
      have y6 := hc6.size
      clear hh6 hc6
      go_wp2_with fail
      refine (H4r.out g w6 G6.out.1).mono ?_
      rintro e w7 ⟨rfl, hb7⟩
      have G7 := Lib.hid (And.intro (G6.out.1.below hb7) hb7)
      have y7 := hb7.size
      clear hb7
      go_wp2_with fail
      refine (H5.out g w7 G7.out.1).mono ?_
      rintro e w8 ⟨rfl, hb8⟩
      have G8 := Lib.hid hb8
      clear hb8
      go_wp2
      go_ret
      refine ⟨rfl, ?_⟩
      have c3 := G3.out.2.below (fun k hk => hk.1) (by omega)
      have c5 := G5.out.2.below (fun k hk => hk.1) (by omega)
      have c6 := G6.out.2.below (fun k hk => hk.1) (by omega)
      exact (((((((G1.out.trans (G2.out.2.mono (by omega))).trans c3).trans (G4.out.2.mono (by omega))).trans c5).trans c6).trans (G7.out.2.mono (by omega))).trans ((bl_al (bl_re _) _).mono (by omega))).trans (G8.out.mono (by simp; omega))
    · have d1 : decide (n < 0) = false := decide_eq_false d
      have d2 : decide (64 < n) = true := decide_eq_true d'
      go_enter Try.func4, Try.ntmps4
      go_wp2_with fail
      refine H0.out.mono ?_
      rintro e w1 ⟨rfl, hb1⟩
      have G1 := Lib.hid hb1
      have y1 := hb1.size
      clear hb1
      go_wp2_with fail
      refine (H1.out w1 y1).mono ?_
      rintro e w2 ⟨g, rfl, hg, hh2, hb2⟩
      have G2 := Lib.hid (And.intro hh2 hb2)
      have y2 := hb2.size
      clear hh2 hb2
      go_wp2_with fail
      refine (H2.out g w2 G2.out.1 (by omega)).mono ?_
      rintro e w3 ⟨rfl, hh3, hc3⟩
      have G3 := Lib.hid (And.intro hh3 hc3)
      have y3 := hc3.size
      clear hh3 hc3
      go_wp2_with fail
      refine (H2r.out g w3 G3.out.1).mono ?_
      rintro e w4 ⟨rfl, hb4⟩
      have G4 := Lib.hid (And.intro (G3.out.1.below hb4) hb4)
      have y4 := hb4.size
      clear hb4
      go_wp2_with fail
      refine (H3.out g w4 G4.out.1).mono ?_
      rintro e w5 ⟨rfl, hh5, hc5⟩
      have G5 := Lib.hid (And.intro hh5 hc5)
      have y5 := hc5.size
      clear hh5 hc5
      go_wp2_with fail
      refine (H4.out g w5 G5.out.1 (by omega)).mono ?_
      rintro e w6 ⟨rfl, hh6, hc6⟩
      have G6 := Lib.hid (And.intro hh6 hc6)
      have y6 := hc6.size
      clear hh6 hc6
      go_wp2_with fail
      refine (H4r.out g w6 G6.out.1).mono ?_
      rintro e w7 ⟨rfl, hb7⟩
      have G7 := Lib.hid (And.intro (G6.out.1.below hb7) hb7)
      have y7 := hb7.size
      clear hb7
      go_wp2_with fail
      refine (H5.out g w7 G7.out.1).mono ?_
      rintro e w8 ⟨rfl, hb8⟩
      have G8 := Lib.hid hb8
      clear hb8
      go_wp2
      go_ret
      refine ⟨rfl, ?_⟩
      have c3 := G3.out.2.below (fun k hk => hk.1) (by omega)
      have c5 := G5.out.2.below (fun k hk => hk.1) (by omega)
      have c6 := G6.out.2.below (fun k hk => hk.1) (by omega)
      exact (((((((G1.out.trans (G2.out.2.mono (by omega))).trans c3).trans (G4.out.2.mono (by omega))).trans c5).trans c6).trans (G7.out.2.mono (by omega))).trans ((bl_al (bl_re _) _).mono (by omega))).trans (G8.out.mono (by simp; omega))
  · obtain ⟨k, rfl⟩ : ∃ k : Nat, n = k := ⟨n.toNat, by omega⟩
    have hk : k ≤ 64 := by omega
    have d1 : decide ((k : Int) < 0) = false := decide_eq_false (by omega)
    have d2 : decide (64 < (k : Int)) = false := decide_eq_false (by omega)
    have h5 := fun g w1 (h : Held (From w.heap.size []) w1 g D3) (hb : w.heap.size ≤ w1.heap.size) => crash_ok (From w.heap.size [w1.heap.size]) g D3 (some ⟨w1.heap.size, 0, none⟩) 1 [(k : Int)] (w1.alloc (.cells #[.int .i64 (k : Int)] 3))
      ((From.sub h _ (Nat.le_refl _)).alloc _) (by simp; omega) (ints_one w1 k) (by rintro a ha ⟨_, h2⟩; obtain rfl := Option.some.inj ha; simp at h2) (by rw [HX.out.2.2.2.1]; simp)
    obtain ⟨D4, hD4⟩ : ∃ D4 : Dk, { D3 with S := Dk.puts D3.S D3.U (kept [(k : Int)]), U := [] } = D4 := ⟨_, rfl⟩
    rw [hD4] at h5
    have hS4 : D4.S = [B.take k ++ A.drop k] := by
      rw [← hD4]
      dsimp only
      rw [HX.out.2.2.1, HX.out.2.2.2.1]
      rfl
    have hU4 : D4.U = [] := by rw [← hD4]
    have h6 := fun g C w1 (h : Held (From w.heap.size [C]) w1 g D4) => read_ok (From w.heap.size [C]) g D4 0 w1 h (by rw [hS4]; simp)
    have hr4 : D4.rd 0 = B.take k ++ A.drop k := by unfold Dk.rd; rw [hU4, hS4]; rfl
    rw [hr4] at h6
    obtain ⟨is, his⟩ : ∃ is, mk (B.take k ++ A.drop k) = is := ⟨_, rfl⟩
    rw [his] at h6
    have H5 := Lib.hid h5
    have H6 := Lib.hid h6
    have HY := Lib.hid his
    clear h5 h6 hS4 hU4 hr4 his hD4 hr hn
    go_enter Try.func4, Try.ntmps4
    go_wp2_with fail
    refine H0.out.mono ?_
    rintro e w1 ⟨rfl, hb1⟩
    have G1 := Lib.hid hb1
    have y1 := hb1.size
    clear hb1
    go_wp2_with fail
    refine (H1.out w1 y1).mono ?_
    rintro e w2 ⟨g, rfl, hg, hh2, hb2⟩
    have G2 := Lib.hid (And.intro hh2 hb2)
    have y2 := hb2.size
    clear hh2 hb2
    go_wp2_with fail
    refine (H2.out g w2 G2.out.1 (by omega)).mono ?_
    rintro e w3 ⟨rfl, hh3, hc3⟩
    have G3 := Lib.hid (And.intro hh3 hc3)
    have y3 := hc3.size
    clear hh3 hc3
    go_wp2_with fail
    refine (H2r.out g w3 G3.out.1).mono ?_
    rintro e w4 ⟨rfl, hb4⟩
    have G4 := Lib.hid (And.intro (G3.out.1.below hb4) hb4)
    have y4 := hb4.size
    clear hb4
    go_wp2_with fail
    refine (H3.out g w4 G4.out.1).mono ?_
    rintro e w5 ⟨rfl, hh5, hc5⟩
    have G5 := Lib.hid (And.intro hh5 hc5)
    have y5 := hc5.size
    clear hh5 hc5
    go_wp2_with fail
    refine (H4.out g w5 G5.out.1 (by omega)).mono ?_
    rintro e w6 ⟨rfl, hh6, hc6⟩
    have G6 := Lib.hid (And.intro hh6 hc6)
    have y6 := hc6.size
    clear hh6 hc6
    go_wp2_with fail
    refine (H4r.out g w6 G6.out.1).mono ?_
    rintro e w7 ⟨rfl, hb7⟩
    have G7 := Lib.hid (And.intro (G6.out.1.below hb7) hb7)
    have y7 := hb7.size
    clear hb7
    go_wp2_with fail
    refine (H5.out g w7 G7.out.1 (by omega)).mono ?_
    rintro e w8 ⟨rfl, hh8, hc8⟩
    have G8 := Lib.hid (And.intro hh8 hc8)
    clear hh8 hc8
    go_wp2_with fail
    refine (H6.out g _ w8 G8.out.1).mono ?_
    rintro e w9 ⟨rfl, hb9⟩
    have G9 := Lib.hid hb9
    clear hb9
    go_wp2_with fail
    go_quiet (fail)
    go_wp2
    go_ret
    obtain ⟨hwas, hnow, _, _, hA, hB⟩ := HX.out
    refine ⟨ret_bool ?_, ?_⟩
    · show (is.toList == (now.extract 0 k ++ was.extract k 64).toList) = true
      rw [beq_iff_eq, ByteArray.toList_eq, ByteArray.toList_eq, ba_append, ← HY.out, ← hwas, ← hnow, mk_toList]
      have e1 : (A.toArray.extract k 64).toList = A.drop k := by
        rw [Array.toList_extract]
        simp only [List.extract]
        exact List.take_of_length_le (by rw [List.length_drop, hA]; exact Nat.le_refl _)
      have e2 : (B.toArray.extract 0 k).toList = B.take k := by simp
      rw [ByteArray.data_extract, ByteArray.data_extract]
      show B.take k ++ A.drop k = (B.toArray.extract 0 k).toList ++ (A.toArray.extract k 64).toList
      rw [e1, e2]
    · have c3 := G3.out.2.below (fun k hk => hk.1) (by omega)
      have c5 := G5.out.2.below (fun k hk => hk.1) (by omega)
      have c6 := G6.out.2.below (fun k hk => hk.1) (by omega)
      have c8 := G8.out.2.below (B := w.heap.size) (fun k hk => hk.1) (by simp; omega)
      have y8 := G8.out.2.size
      rw [World.size_alloc] at y8
      exact bl_dN (((((((((G1.out.trans (G2.out.2.mono (by omega))).trans c3).trans (G4.out.2.mono (by omega))).trans c5).trans c6).trans (G7.out.2.mono (by omega))).trans ((bl_al (bl_re _) _).mono (by omega))).trans c8).trans (G9.out.mono (by omega))) _

theorem diskTears_law (s t : ByteArray) (n : Int) (hs : s.size ≤ maxLen) (ht : t.size ≤ maxLen) (hn : (Lit.int .i64 n).wf = true) (w : World) :
    Calls Try.prog 4 #[.string s, .string t, .int .i64 n] w fun e w' => e = .returned (.bool true) ∧ Below w.heap.size w w' := diskTears_walk s t n hs ht (wf_i64 hn) w
end Go.Proofs.Ytmbjbckjfkijmaa
