/- Sum and Seal of package sum: what each call returns, and that it leaves whatever lay as it lay. No condition but that a text's length is a length. -/
import Derived.Test.YtmbjbckjfkijmaaSumX
namespace Go.Proofs.Ytmbjbckjfkijmaa
open Go.RowKit Go.Shelf

set_option maxHeartbeats 400000 in
theorem sum_any (s : ByteArray) (w : World) (hs : s.size ≤ maxLen) :
    Calls Try.prog 58 #[.string s] w fun e w' => e = .returned (.int .u32 (Sm.sumV s.data.toList : Nat)) ∧ Below w.heap.size w w' := by
  have HM := fun w => more_yes 1 s w (by omega) hs rfl
  go_enter Try.func58, Try.ntmps58
  go_wp2_with (go_at_call 68; refine (HM _).mono ?_; rintro e w1 ⟨rfl, hb1⟩)
  go_ret
  exact ⟨rfl, hb1⟩

theorem be4_eq (n : Nat) (hn : n < 4294967296) : ([(n : Int) / 16777216, (n : Int) / 65536 % 256, (n : Int) / 256 % 256, (n : Int) % 256].map fun z => UInt8.ofNat z.toNat) = Sm.be4 n := by
  have h1 : ((n : Int) / 16777216).toNat = n / 16777216 := by omega
  have h2 : ((n : Int) / 65536 % 256).toNat = n / 65536 % 256 := by omega
  have h3 : ((n : Int) / 256 % 256).toNat = n / 256 % 256 := by omega
  have h4 : ((n : Int) % 256).toNat = n % 256 := by omega
  simp only [List.map_cons, List.map_nil, h1, h2, h3, h4, Sm.be4]

set_option maxHeartbeats 400000 in
theorem seal_any (s : ByteArray) (w : World) (hs : s.size ≤ 140737488351232) :
    Calls Try.prog 49 #[.string s] w fun e w' => e = .returned (.string (mk (s.data.toList ++ Sm.be4 (Sm.sumV s.data.toList)))) ∧ Below w.heap.size w w' := by
  have HS := fun w => sum_any s w (by unfold maxLen; omega)
  obtain ⟨n, hn⟩ : ∃ n, Sm.sumV s.data.toList = n := ⟨_, rfl⟩
  have hlt := Sm.sumV_lt s.data.toList
  rw [hn] at HS hlt ⊢
  have HS' := Lib.hid HS
  clear HS hn
  go_enter Try.func49, Try.ntmps49
  go_wp2_with fail
  refine (HS'.out _).mono ?_
  rintro e w1 ⟨rfl, hb1⟩
  have hcv := run_convert_bytes_arg (P := Try.prog) (w1.alloc (.cells #[.int .u8 ((n : Int) / 16777216), .int .u8 ((n : Int) / 65536 % 256), .int .u8 ((n : Int) / 256 % 256), .int .u8 ((n : Int) % 256)] 5)) 64 5 Try.underlying64 Try.underlying5 w1.heap.size 0 4 4
    [(n : Int) / 16777216, (n : Int) / 65536 % 256, (n : Int) / 256 % 256, (n : Int) % 256] rfl (fun i hi => by
      have hB := Blk.new w1 5 #[.int .u8 ((n : Int) / 16777216), .int .u8 ((n : Int) / 65536 % 256), .int .u8 ((n : Int) / 256 % 256), .int .u8 ((n : Int) % 256)]
      rw [hB.cell]
      match i, hi with
      | 0, _ => rfl
      | 1, _ => rfl
      | 2, _ => rfl
      | 3, _ => rfl) 9 Try.underlying9
  obtain ⟨t, ht⟩ : ∃ t, strOfNums [(n : Int) / 16777216, (n : Int) / 65536 % 256, (n : Int) / 256 % 256, (n : Int) % 256] = t := ⟨_, rfl⟩
  have hts : t.size = 4 := by rw [← ht]; rfl
  rw [ht] at hcv
  have HT := Lib.hid ht
  clear ht
  go_wp2
  go_ret
  refine ⟨ret_str ?_, bl_al hb1 _⟩
  rw [mk_toList, ← be4_eq n hlt]
  show (s ++ t).data.toList = _
  rw [ba_append, ← HT.out, strOfNums_data]

end Go.Proofs.Ytmbjbckjfkijmaa
