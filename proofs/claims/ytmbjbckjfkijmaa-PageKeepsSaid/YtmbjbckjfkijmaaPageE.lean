/- Encode of package page: what each call returns, and that it leaves whatever lay as it lay. -/
import Derived.Test.YtmbjbckjfkijmaaPageW
import Derived.Test.YtmbjbckjfkijmaaSeal
import Derived.Test.YtmbjbckjfkijmaaShelf
import Derived.Deep.RegionHeld3
namespace Go.Proofs.Ytmbjbckjfkijmaa
open Go.RowKit Go.Shelf
set_option linter.unusedVariables false

set_option maxRecDepth 100000 in
set_option maxHeartbeats 1000000 in
theorem encode_no (k : Int) (i t : Nat) (b : ByteArray) (w : World) (hk : -9223372036854775808 ≤ k ∧ k ≤ 9223372036854775807) (hi : i < 4294967296) (ht : t < 18446744073709551616) (hb : b.size ≤ maxLen) (h : rightB k i t b.size = false) :
    Calls Try.prog 32 #[.agg #[.int .i64 k, .int .u32 i, .int .u64 t, .string b]] w fun e w' => e = .returned (.tuple #[.string (mk []), .int .i64 30]) ∧ Below w.heap.size w w' := by
  have H := Lib.hid (fun w => right_any k i t b w hk hi ht hb)
  rw [h] at H
  clear h hk hi ht hb
  go_enter Try.func32, Try.ntmps32
  go_wp2_with fail
  refine (H.out _).mono ?_
  rintro e w1 ⟨rfl, hb1⟩
  go_wp2
  go_ret2
  exact ⟨rfl, (bl_al (bl_re w) _).trans (hb1.mono (by simp))⟩

theorem repeatL_one : ∀ n, Lib.repeatL [0] n = List.replicate n 0
  | 0 => rfl
  | n + 1 => by rw [Lib.repeatL, repeatL_one n]; rfl
theorem box_keep {w1 w5 : World} {B : Nat} {o : Obj} {v0 v1 v2 v3 : Value} (hlt : B < w1.heap.size) (h : w1.cell? ⟨B, 0, none⟩ = some v0 ∧ w1.cell? ⟨B, 1, none⟩ = some v1 ∧ w1.cell? ⟨B, 2, none⟩ = some v2 ∧ w1.cell? ⟨B, 3, none⟩ = some v3) (hb : Below (w1.alloc o).drew.heap.size (w1.alloc o).drew w5) :
    (w5.cell? ⟨B, 0, none⟩ = some v0 ∧ w5.cell? ⟨B, 1, none⟩ = some v1 ∧ w5.cell? ⟨B, 2, none⟩ = some v2 ∧ w5.cell? ⟨B, 3, none⟩ = some v3) ∧ B < w5.heap.size ∧ Below w1.heap.size w1 w5 := by
  have h1 : Below w1.heap.size w1 w5 := (bl_dr (bl_al (bl_re w1) o)).trans (hb.mono (by simp))
  exact ⟨⟨(h1.cell (p := ⟨B, 0, none⟩) hlt).trans h.1, (h1.cell (p := ⟨B, 1, none⟩) hlt).trans h.2.1, (h1.cell (p := ⟨B, 2, none⟩) hlt).trans h.2.2.1, (h1.cell (p := ⟨B, 3, none⟩) hlt).trans h.2.2.2⟩, Nat.lt_of_lt_of_le hlt h1.size, h1⟩
theorem FieldsAt.drew {w : World} {g : Nat} {fs : List (Nat × Nat)} (h : FieldsAt w g fs) : FieldsAt w.drew g fs := h
theorem fields_new (W : World) (k i t n : Nat) : FieldsAt (W.alloc (.cells #[.int .u64 (k : Int), .int .i64 1, .int .u64 (i : Int), .int .i64 4, .int .u64 (t : Int), .int .i64 8, .int .u64 (n : Int), .int .i64 2] 96)) W.heap.size [(k, 1), (i, 4), (t, 8), (n, 2)] := by
  have hB := Blk.new W 96 #[.int .u64 (k : Int), .int .i64 1, .int .u64 (i : Int), .int .i64 4, .int .u64 (t : Int), .int .i64 8, .int .u64 (n : Int), .int .i64 2]
  intro j p hp
  rw [hB.cell, hB.cell]
  match j, hp with
  | 0, hp => obtain rfl := Option.some.inj hp; exact ⟨rfl, rfl⟩
  | 1, hp => obtain rfl := Option.some.inj hp; exact ⟨rfl, rfl⟩
  | 2, hp => obtain rfl := Option.some.inj hp; exact ⟨rfl, rfl⟩
  | 3, hp => obtain rfl := Option.some.inj hp; exact ⟨rfl, rfl⟩
  | j + 4, hp => simp at hp

set_option maxRecDepth 100000 in
set_option maxHeartbeats 2000000 in
theorem encode_yes (k i t : Nat) (b : ByteArray) (w : World) (hk : k ≤ 3) (hi : i < 4294967296) (ht : t < 18446744073709551616) (hb : b.size ≤ 237) (h : rightB k i t b.size = true) :
    Calls Try.prog 32 #[.agg #[.int .i64 k, .int .u32 i, .int .u64 t, .string b]] w fun e w' => e = .returned (.tuple #[.string (mk (encL k i t b.data.toList)), .int .i64 0]) ∧ Below w.heap.size w w' := by
  have H := Lib.hid (fun w => right_any k i t b w (by omega) hi ht (by unfold maxLen; omega))
  rw [h] at H
  clear h
  have hB := Blk.new w 60 #[.int .i64 (k : Int), .int .u32 (i : Int), .int .u64 (t : Int), .string b]
  have HB := Lib.hid hB
  clear hB
  go_enter Try.func32, Try.ntmps32
  go_wp2_with fail
  refine (H.out _).mono ?_
  rintro e w1 ⟨rfl, hb1⟩
  have b1 := HB.out.below hb1 (by simp)
  have c0 : w1.cell? ⟨w.heap.size, 0, none⟩ = some (.int .i64 (k : Int)) := b1.cell 0
  have c1 : w1.cell? ⟨w.heap.size, 1, none⟩ = some (.int .u32 (i : Int)) := b1.cell 1
  have c2 : w1.cell? ⟨w.heap.size, 2, none⟩ = some (.int .u64 (t : Int)) := b1.cell 2
  have c3 : w1.cell? ⟨w.heap.size, 3, none⟩ = some (.string b) := b1.cell 3
  have hlt := b1.lt
  have G1 := Lib.hid (And.intro b1 ((bl_al (bl_re w) _).trans (hb1.mono (by simp))))
  clear b1 hb1
  have e1 : IntKind.u64.wrap (k : Int) = k := IntWalk.u64_in _ (by omega)
  have e2 : IntKind.u64.wrap (i : Int) = i := IntWalk.u64_in _ (by omega)
  have e3 : IntKind.u64.wrap (b.size : Int) = b.size := IntWalk.u64_in _ (by omega)
  have HF : Hid (∀ p ∈ [(k, 1), (i, 4), (t, 8), (b.size, 2)], p.1 < 18446744073709551616 ∧ 1 ≤ p.2 ∧ p.2 ≤ 8) := Lib.hid (by
    intro p hp
    simp only [List.mem_cons, List.not_mem_nil, or_false] at hp
    rcases hp with rfl | rfl | rfl | rfl <;> exact ⟨by dsimp only; omega, by dsimp only; omega, by dsimp only; omega⟩)
  have HZ : Hid (fieldsL [(k, 1), (i, 4), (t, 8), (b.size, 2)] ++ b.data.toList = headL k i t b.data.toList) := Lib.hid (by simp [fieldsL, headL])
  obtain ⟨hd, hhd⟩ : ∃ hd, fieldsL [(k, 1), (i, 4), (t, 8), (b.size, 2)] = hd := ⟨_, rfl⟩
  rw [hhd] at HZ
  have HHD := Lib.hid hhd
  have hsz : (mk hd ++ b).size = 15 + b.size := by rw [← ba_length, ba_append, mk_toList, HZ.out, headL_length, ba_length]
  have hms : (mk hd).size = 15 := by rw [mk_size, ← hhd]; simp [fieldsL, be_length]
  have HSZ := Lib.hid hsz
  clear hhd hsz
  have hadd : ∀ W, (Op.stringOp .add (mk hd) b).run Try.prog W = .ok (.string (mk hd ++ b)) W := fun W => run_string_add_sum W _ _ (by omega)
  have hz : (mk hd ++ b).data.toList = headL k i t b.data.toList := by rw [ba_append, mk_toList]; exact HZ.out
  have hse := fun W => seal_any (mk hd ++ b) W (by rw [HSZ.out]; omega)
  rw [hz] at hse
  obtain ⟨z, hzz⟩ : ∃ z, mk (headL k i t b.data.toList ++ Sm.be4 (Sm.sumV (headL k i t b.data.toList))) = z := ⟨_, rfl⟩
  rw [hzz] at hse
  have hzs : z.size = 19 + b.size := by rw [← hzz, mk_size]; exact (sealL_length _).trans (by rw [headL_length, ba_length]; omega)
  have HSE := Lib.hid hse
  have HZZ := Lib.hid (And.intro hzz hzs)
  clear hz hse hzz hzs
  go_wp2_with fail
  go_region_held3 (fun w' => w'.cell? ⟨w.heap.size, 0, none⟩ = some (.int .i64 (k : Int)) ∧ w'.cell? ⟨w.heap.size, 1, none⟩ = some (.int .u32 (i : Int)) ∧ w'.cell? ⟨w.heap.size, 2, none⟩ = some (.int .u64 (t : Int)) ∧ w'.cell? ⟨w.heap.size, 3, none⟩ = some (.string b))
    (first
      | go_keep
      | exact ⟨(hb6.cell (p := ⟨w.heap.size, 0, none⟩) K5.out.2.1).trans K5.out.1.1, (hb6.cell (p := ⟨w.heap.size, 1, none⟩) K5.out.2.1).trans K5.out.1.2.1, (hb6.cell (p := ⟨w.heap.size, 2, none⟩) K5.out.2.1).trans K5.out.1.2.2.1, (hb6.cell (p := ⟨w.heap.size, 3, none⟩) K5.out.2.1).trans K5.out.1.2.2.2⟩
      | exact K5.out.1)
    (first
      | (go_at_call 49; refine (HSE.out _).mono ?_; rintro e w6 ⟨rfl, hb6⟩)
      | (go_at_call 50; refine (bytes_any _ [(k, 1), (i, 4), (t, 8), (b.size, 2)] 4 4 _ rfl (by omega) (by omega) HF.out (by simp) (fields_new w1 k i t b.size).drew).mono ?_; rw [HHD.out]; rintro e w5 ⟨rfl, hb5⟩; have K5 := Lib.hid (box_keep hlt ⟨c0, c1, c2, c3⟩ hb5); clear hb5))
  have hzs := HZZ.out.2
  have hrp := fun w => Try.strings_Repeat ⟨#[0]⟩ (256 - (19 + b.size)) w (by omega) (by
    rw [show (⟨#[0]⟩ : ByteArray).size = 1 from rfl]
    omega)
  obtain ⟨zr, hzr⟩ : ∃ zr, (⟨(Lib.repeatL (⟨#[0]⟩ : ByteArray).data.toList (256 - (19 + b.size))).toArray⟩ : ByteArray) = zr := ⟨_, rfl⟩
  rw [hzr] at hrp
  have hzr2 : zr.data.toList = List.replicate (256 - (19 + b.size)) 0 := by
    rw [← hzr]
    exact repeatL_one _
  have hzr3 : zr.size ≤ 256 := by rw [← ba_length, hzr2, List.length_replicate]; omega
  have HZR := Lib.hid hzr2
  have hc : ((256 - (19 + b.size) : Nat) : Int) = 256 - (z.size : Int) := by omega
  rw [hc] at hrp
  have HRP := Lib.hid hrp
  have HK := Lib.hid (And.intro K5.out.2.2 hb6)
  have hz0 : z.size ≤ 256 := by omega
  clear hzr hzr2 hzs hrp hc hb6 hadd hms e1 e2 e3
  go_wp2_with fail
  refine (HRP.out _).mono ?_
  rintro e w7 ⟨rfl, hb7⟩
  go_wp2
  go_ret2
  refine ⟨?_, (G1.out.2.trans (HK.out.1.mono (by have := G1.out.2.size; exact this))).trans ((HK.out.2.mono (Nat.le_trans G1.out.2.size HK.out.1.size)).trans (hb7.mono (Nat.le_trans (Nat.le_trans G1.out.2.size HK.out.1.size) HK.out.2.size)))⟩
  have h : z ++ zr = mk (encL k i t b.data.toList) := ba_ext (by
    rw [ba_append, mk_toList, HZR.out, ← HZZ.out.1, mk_toList]
    unfold encL sealL
    rw [ba_length])
  rw [← h]
  rfl
end Go.Proofs.Ytmbjbckjfkijmaa
