/- The helpers of the laws of package page: small, shown. -/
import Derived.Test.YtmbjbckjfkijmaaRefPage
import Derived.Test.YtmbjbckjfkijmaaPageL
import Derived.Laws.StructEq
namespace Go.Proofs.Ytmbjbckjfkijmaa
open Go.RowKit Go.Shelf
set_option linter.unusedVariables false

def text250 (s : ByteArray) : ByteArray := mk (s.data.toList.take 250)
theorem text250_size (s : ByteArray) : (text250 s).size ≤ 250 := by
  unfold text250
  rw [mk_size, List.length_take]
  omega

set_option maxRecDepth 100000 in
set_option maxHeartbeats 1000000 in
theorem small_any (k i t : Int) (s : ByteArray) (w : World) (hs : s.size ≤ maxLen) :
    Calls Try.prog 31 #[.agg #[.int .i64 k, .int .u32 i, .int .u64 t, .string s]] w fun e w' => e = .returned (.agg #[.int .i64 k, .int .u32 i, .int .u64 t, .string (text250 s)]) ∧ Below w.heap.size w w' := by
  unfold maxLen at hs
  have e : s.extract 0 (min (s.size : Int) 250).toNat = text250 s := ba_ext (by
    unfold text250
    rw [mk_toList, ByteArray.data_extract, Array.toList_extract, List.extract_eq_take_drop, List.drop_zero]
    by_cases h : s.size ≤ 250
    · rw [List.take_of_length_le (by rw [ba_length]; omega), List.take_of_length_le (by rw [ba_length]; omega)]
    · rw [show (min (s.size : Int) 250).toNat - 0 = 250 by omega])
  have HE := Lib.hid e
  clear e
  go_enter Try.func31, Try.ntmps31
  go_wp2
  exact bodyPost_ret (v := .agg #[.int .i64 k, .int .u32 i, .int .u64 t, .string (s.extract 0 (min (s.size : Int) 250).toNat)]) (by simp [results, Try.results31, go_sem]) rfl ⟨by rw [HE.out], bl_al (bl_al (bl_re w) _) _⟩

def zleaf : ByteArray := mk (encL 1 2 1 [])
theorem zleaf_size : zleaf.size = 256 := by rw [zleaf, mk_size]; exact encL_length 1 2 1 [] (by simp)
theorem zleaf_head : ((zleaf.extract 0 15).toList == [1, 0, 0, 0, 2, 0, 0, 0, 0, 0, 0, 0, 1, 0, 0]) = true := by
  rw [ByteArray.toList_eq, ext_list, zleaf, mk_toList]
  kernel_rfl
theorem zleaf_dec : decV zleaf.data.toList = .tuple #[pageV 1 2 1 [], .int .i64 0] := by
  rw [zleaf, mk_toList]
  exact decV_enc 1 2 1 [] (by omega) (by omega) rfl

set_option maxRecDepth 100000 in
set_option maxHeartbeats 4000000 in
theorem shown3_any (w : World) : Calls Try.prog 30 #[] w fun e w' => e = .returned (.bool true) ∧ Below w.heap.size w w' := by
  have h1 : ∀ W : World, Calls Try.prog 32 #[.agg #[.int .i64 1, .int .u32 2, .int .u64 1, .string ⟨#[]⟩]] W fun e w' => e = .returned (.tuple #[.string zleaf, .int .i64 0]) ∧ Below W.heap.size W w' := fun W => encode_any 1 2 1 ⟨#[]⟩ W (by omega) (by omega) (by omega) (by unfold maxLen; decide)
  have h2 : ∀ W : World, Calls Try.prog 36 #[.string zleaf] W fun e w' => e = .returned (.tuple #[.agg #[.int .i64 1, .int .u32 2, .int .u64 1, .string ⟨#[]⟩], .int .i64 0]) ∧ Below W.heap.size W w' := fun W => by
    have h := decode_any zleaf W (by rw [zleaf_size]; unfold maxLen; omega)
    rw [zleaf_dec] at h
    exact h
  have h3 : ∀ W : World, Calls Try.prog 32 #[.agg #[.int .i64 0, .int .u32 0, .int .u64 0, .string ⟨#[]⟩]] W fun e w' => e = .returned (.tuple #[.string (mk []), .int .i64 30]) ∧ Below W.heap.size W w' := fun W => encode_any 0 0 0 ⟨#[]⟩ W (by omega) (by omega) (by omega) (by unfold maxLen; decide)
  have zs := zleaf_size
  have zh := zleaf_head
  obtain ⟨z, hz⟩ : ∃ z, zleaf = z := ⟨_, rfl⟩
  rw [hz] at h1 h2 zs zh
  clear hz
  have H1 := Lib.hid h1
  have H2 := Lib.hid h2
  have H3 := Lib.hid h3
  clear h1 h2 h3
  have z1 : (z.size : Int) = 256 := by omega
  go_enter Try.func30, Try.ntmps30
  go_wp2_with fail
  refine (H1.out _).mono ?_
  rintro e w1 ⟨rfl, hb1⟩
  have HB1 := Lib.hid hb1
  clear hb1
  go_wp2_with fail
  refine (H2.out _).mono ?_
  rintro e w2 ⟨rfl, hb2⟩
  have HB2 := Lib.hid hb2
  clear hb2
  go_wp2_with fail
  refine (H3.out _).mono ?_
  rintro e w3 ⟨rfl, hb3⟩
  have b3 := (Blk.new w2 60 #[.int .i64 1, .int .u32 2, .int .u64 1, .string ⟨#[]⟩]).below hb3 (by simp)
  have c0 : w3.cell? ⟨w2.heap.size, 0, none⟩ = some (.int .i64 1) := b3.cell 0
  have c1 : w3.cell? ⟨w2.heap.size, 1, none⟩ = some (.int .u32 2) := b3.cell 1
  have c2 : w3.cell? ⟨w2.heap.size, 2, none⟩ = some (.int .u64 1) := b3.cell 2
  have c3 : w3.cell? ⟨w2.heap.size, 3, none⟩ = some (.string ⟨#[]⟩) := b3.cell 3
  have HB3 := Lib.hid hb3
  clear hb3 b3
  go_wp2
  go_ret
  exact ⟨rfl, bl_tr (bl_al (bl_tr HB1.out HB2.out) _) HB3.out⟩
end Go.Proofs.Ytmbjbckjfkijmaa
