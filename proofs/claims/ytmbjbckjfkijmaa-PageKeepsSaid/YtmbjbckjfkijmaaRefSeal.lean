/- Seal of package bazaarref02: what each call returns, and that it leaves whatever lay as it lay. No condition but that a text's length is a length. -/
import Derived.Test.YtmbjbckjfkijmaaRef02
import Derived.Test.YtmbjbckjfkijmaaSeal
namespace Go.Proofs.Ytmbjbckjfkijmaa
open Go.RowKit Go.Shelf

set_option maxHeartbeats 400000 in
theorem rseal_any (s : ByteArray) (w : World) (hs : s.size ≤ 140737488351232) :
    Calls Try.prog 52 #[.string s] w fun e w' => e = .returned (.string (mk (s.data.toList ++ Sm.be4 (Sm.sumV s.data.toList)))) ∧ Below w.heap.size w w' := by
  have HS := fun w => rsum_any s w (by unfold maxLen; omega)
  obtain ⟨n, hn⟩ : ∃ n, Sm.sumV s.data.toList = n := ⟨_, rfl⟩
  have hlt := Sm.sumV_lt s.data.toList
  rw [hn] at HS hlt ⊢
  have HS' := Lib.hid HS
  clear HS hn
  have hcv := run_convert_bytes_arg (P := Try.prog) (w.alloc (.cells #[.int .u8 ((n : Int) / 16777216), .int .u8 ((n : Int) / 65536 % 256), .int .u8 ((n : Int) / 256 % 256), .int .u8 ((n : Int) % 256)] 5)) 64 5 Try.underlying64 Try.underlying5 w.heap.size 0 4 4
    [(n : Int) / 16777216, (n : Int) / 65536 % 256, (n : Int) / 256 % 256, (n : Int) % 256] rfl (fun i hi => by
      have hB := Blk.new w 5 #[.int .u8 ((n : Int) / 16777216), .int .u8 ((n : Int) / 65536 % 256), .int .u8 ((n : Int) / 256 % 256), .int .u8 ((n : Int) % 256)]
      rw [hB.cell]
      match i, hi with
      | 0, _ => rfl
      | 1, _ => rfl
      | 2, _ => rfl
      | 3, _ => rfl) 9 Try.underlying9
  obtain ⟨t, ht⟩ : ∃ t, strOfNums [(n : Int) / 16777216, (n : Int) / 65536 % 256, (n : Int) / 256 % 256, (n : Int) % 256] = t := ⟨_, rfl⟩
  have hts : t.size = 4 := by rw [← ht]; rfl
  rw [ht] at hcv
  have HT := Lib.hid ht
  clear ht
  go_enter Try.func52, Try.ntmps52
  go_wp2_with fail
  refine (HS'.out _).mono ?_
  rintro e w1 ⟨rfl, rfl⟩
  go_wp2
  go_ret
  refine ⟨ret_str ?_, bl_al (bl_re _) _⟩
  rw [mk_toList, ← be4_eq n hlt]
  show (s ++ t).data.toList = _
  rw [ba_append, ← HT.out, strOfNums_data]

end Go.Proofs.Ytmbjbckjfkijmaa
