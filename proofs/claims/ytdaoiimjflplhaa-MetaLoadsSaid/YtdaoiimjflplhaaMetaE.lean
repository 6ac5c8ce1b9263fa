/- Encode of package meta: what each call returns, and that it leaves whatever lay as it lay. -/
import Derived.Test.YtdaoiimjflplhaaMetaW
import Derived.Test.YtdaoiimjflplhaaShelf
import Derived.Deep.RegionHeld3
namespace Go.Proofs.Ytdaoiimjflplhaa
open Go.RowKit Go.Shelf
set_option linter.unusedVariables false

def metaV (t r h f : Nat) : Value := .agg #[.int .u64 (t : Int), .int .u32 (r : Int), .int .u32 (h : Int), .int .u32 (f : Int)]
def mencV (t r h f : Nat) : Value := if mRightB t r h f = true then .tuple #[.string (mk (mEnc t r h f)), .int .i64 0] else .tuple #[.string (mk []), .int .i64 40]

set_option maxRecDepth 100000 in
set_option maxHeartbeats 1000000 in
theorem mencode_no (t r h f : Nat) (w : World) (ht : t < 18446744073709551616) (hr : r < 4294967296) (hh : h < 4294967296) (hf : f < 4294967296) (hR : mRightB t r h f = false) :
    Calls Try.prog 11 #[metaV t r h f] w fun e w' => e = .returned (.tuple #[.string (mk []), .int .i64 40]) ∧ Below w.heap.size w w' := by
  have H := Lib.hid (fun w => mright_any t r h f w ht hr hh hf)
  rw [hR] at H
  unfold metaV
  clear hR ht hr hh hf
  go_enter Try.func11, Try.ntmps11
  go_wp2_with fail
  refine (H.out _).mono ?_
  rintro e w1 ⟨rfl, hb1⟩
  go_wp2
  go_ret2
  exact ⟨rfl, (bl_al (bl_re w) _).trans (hb1.mono (by simp))⟩

theorem mrepeatL_one : ∀ n, Lib.repeatL [0] n = List.replicate n 0
  | 0 => rfl
  | n + 1 => by rw [Lib.repeatL, mrepeatL_one n]; rfl
theorem nums_new1 (W : World) (a : Nat) : NumsAt (W.alloc (.cells #[.int .u64 (a : Int)] 22)) W.heap.size [a] := by
  have hB := Blk.new W 22 #[.int .u64 (a : Int)]
  intro j p hp
  rw [hB.cell]
  match j, hp with
  | 0, hp => obtain rfl := Option.some.inj hp; rfl
  | j + 1, hp => simp at hp
theorem nums_new3 (W : World) (a b c : Nat) : NumsAt (W.alloc (.cells #[.int .u64 (a : Int), .int .u64 (b : Int), .int .u64 (c : Int)] 22)) W.heap.size [a, b, c] := by
  have hB := Blk.new W 22 #[.int .u64 (a : Int), .int .u64 (b : Int), .int .u64 (c : Int)]
  intro j p hp
  rw [hB.cell]
  match j, hp with
  | 0, hp => obtain rfl := Option.some.inj hp; rfl
  | 1, hp => obtain rfl := Option.some.inj hp; rfl
  | 2, hp => obtain rfl := Option.some.inj hp; rfl
  | j + 3, hp => simp at hp

set_option maxRecDepth 100000 in
set_option maxHeartbeats 2000000 in
theorem mencode_yes (t r h f : Nat) (w : World) (ht : t < 18446744073709551616) (hr : r < 4294967296) (hh : h < 4294967296) (hf : f < 4294967296) (hR : mRightB t r h f = true) :
    Calls Try.prog 11 #[metaV t r h f] w fun e w' => e = .returned (.tuple #[.string (mk (mEnc t r h f)), .int .i64 0]) ∧ Below w.heap.size w w' := by
  have H := Lib.hid (fun w => mright_any t r h f w ht hr hh hf)
  rw [hR] at H
  clear hR
  have hB := Blk.new w 25 #[.int .u64 (t : Int), .int .u32 (r : Int), .int .u32 (h : Int), .int .u32 (f : Int)]
  have HB := Lib.hid hB
  clear hB
  have e1 : IntKind.u64.wrap (r : Int) = r := IntWalk.u64_in _ (by omega)
  have e2 : IntKind.u64.wrap (h : Int) = h := IntWalk.u64_in _ (by omega)
  have e3 : IntKind.u64.wrap (f : Int) = f := IntWalk.u64_in _ (by omega)
  have HF1 : Hid (∀ p ∈ [t], p < 18446744073709551616) := Lib.hid (by
    intro p hp
    obtain rfl := List.mem_singleton.1 hp
    exact ht)
  have HF2 : Hid (∀ p ∈ [r, h, f], p < 18446744073709551616) := Lib.hid (by
    intro p hp
    simp only [List.mem_cons, List.not_mem_nil, or_false] at hp
    rcases hp with rfl | rfl | rfl <;> omega)
  obtain ⟨a, ha⟩ : ∃ a, mk (numsL 8 [t]) = a := ⟨_, rfl⟩
  obtain ⟨b, hb⟩ : ∃ b, mk (numsL 4 [r, h, f]) = b := ⟨_, rfl⟩
  have sa : a.size = 8 := by rw [← ha, mk_size, numsL_len]; rfl
  have sb : b.size = 12 := by rw [← hb, mk_size, numsL_len]; rfl
  have HA := Lib.hid (And.intro ha hb)
  have hrp := fun w => Try.strings_Repeat ⟨#[0]⟩ 36 w (by omega) (by
    rw [show (⟨#[0]⟩ : ByteArray).size = 1 from rfl]
    omega)
  obtain ⟨z, hz⟩ : ∃ z, (⟨(Lib.repeatL (⟨#[0]⟩ : ByteArray).data.toList 36).toArray⟩ : ByteArray) = z := ⟨_, rfl⟩
  have hz2 : z.data.toList = List.replicate 36 0 := by rw [← hz]; exact mrepeatL_one _
  have sz : z.size = 36 := by rw [← ba_length, hz2, List.length_replicate]
  rw [hz, show ((36 : Nat) : Int) = 36 from rfl] at hrp
  have HZ := Lib.hid hz2
  have HRP := Lib.hid hrp
  clear ha hb hz hz2 hrp ht hr hh hf
  unfold metaV
  go_enter Try.func11, Try.ntmps11
  go_wp2_with fail
  refine (H.out _).mono ?_
  rintro e w1 ⟨rfl, hb1⟩
  have b1 := HB.out.below hb1 (by simp)
  have c0 : w1.cell? ⟨w.heap.size, 0, none⟩ = some (.int .u64 (t : Int)) := b1.cell 0
  have hlt := b1.lt
  have G1 := Lib.hid (And.intro b1 ((bl_al (bl_re w) _).trans (hb1.mono (by simp))))
  clear b1 hb1
  go_wp2_with fail
  refine (mput_any 8 _ [t] 1 1 _ rfl (by omega) (by omega) (by omega) HF1.out (by simp) (nums_new1 w1 t)).mono ?_
  rw [HA.out.1]
  rintro e w2 ⟨rfl, hb2⟩
  have b2 := G1.out.1.below ((bl_al (bl_re w1) _).trans (hb2.mono (by simp))) hlt
  have c1 : w2.cell? ⟨w.heap.size, 1, none⟩ = some (.int .u32 (r : Int)) := b2.cell 1
  have c2 : w2.cell? ⟨w.heap.size, 2, none⟩ = some (.int .u32 (h : Int)) := b2.cell 2
  have c3 : w2.cell? ⟨w.heap.size, 3, none⟩ = some (.int .u32 (f : Int)) := b2.cell 3
  have hlt2 := b2.lt
  have G2 := Lib.hid (bl_tr (bl_al G1.out.2 _) hb2)
  clear b2 hb2
  go_wp2_with fail
  refine (mput_any 4 _ [r, h, f] 3 3 _ rfl (by omega) (by omega) (by omega) HF2.out (by simp) (nums_new3 w2 r h f)).mono ?_
  rw [HA.out.2]
  rintro e w3 ⟨rfl, hb3⟩
  have G3 := Lib.hid (bl_tr (bl_al G2.out _) hb3)
  clear hb3 c0 c1 c2 c3
  go_wp2_with fail
  refine (HRP.out _).mono ?_
  rintro e w4 ⟨rfl, hb4⟩
  go_wp2
  go_ret2
  refine ⟨?_, bl_tr G3.out hb4⟩
  have h : a ++ b ++ z ++ a = mk (mEnc t r h f) := ba_ext (by
    rw [ba_append, ba_append, ba_append, HZ.out, ← HA.out.1, ← HA.out.2, mk_toList, mk_toList, mk_toList]
    simp [mEnc, numsL])
  rw [← h]
  rfl

theorem mencode_any (t r h f : Nat) (w : World) (ht : t < 18446744073709551616) (hr : r < 4294967296) (hh : h < 4294967296) (hf : f < 4294967296) :
    Calls Try.prog 11 #[metaV t r h f] w fun e w' => e = .returned (mencV t r h f) ∧ Below w.heap.size w w' := by
  unfold mencV
  cases hR : mRightB t r h f with
  | true => exact mencode_yes t r h f w ht hr hh hf hR
  | false => exact mencode_no t r h f w ht hr hh hf hR
end Go.Proofs.Ytdaoiimjflplhaa
