/- isPlace, Right, put and number of package meta, Right of package bazaarref04: what each call returns, and that it leaves whatever lay as it lay. Printed in part by wip/metaw.py. -/
import Derived.Test.YtdaoiimjflplhaaRefPut
import Derived.Test.YtdaoiimjflplhaaMetaM
namespace Go.Proofs.Ytdaoiimjflplhaa
open Go.RowKit Go.Shelf
set_option linter.unusedVariables false

set_option maxRecDepth 100000 in
set_option maxHeartbeats 1000000 in
theorem place_any (p h : Nat) (w : World) (hp : p < 4294967296) (hh : h < 4294967296) :
    Calls Try.prog 32 #[.int .u32 p, .int .u32 h] w fun e w' => e = .returned (.bool (placeB p h)) ∧ w = w' := by
  by_cases h0 : p = 0
  · have hR : placeB p h = true := by unfold placeB; exact decide_eq_true (.inl h0)
    rw [hR]
    have e0 : ((p : Int) == 0) = true := by simp [h0]
    clear hR h0
    go_enter Try.func32, Try.ntmps32
    go_wp2
    go_ret
    exact ⟨rfl, rfl⟩
  · have e0 : ((p : Int) == 0) = false := by simp [h0]
    by_cases h1 : 2 ≤ p
    · have e1 : decide (2 ≤ (p : Int)) = true := decide_eq_true (by omega)
      by_cases h2 : p < h
      · have hR : placeB p h = true := by unfold placeB; exact decide_eq_true (.inr ⟨h1, h2⟩)
        rw [hR]
        have e2 : decide (p < h) = true := decide_eq_true h2
        clear hR h0 h1 h2
        go_enter Try.func32, Try.ntmps32
        go_wp2
        go_ret
        exact ⟨rfl, rfl⟩
      · have hR : placeB p h = false := by unfold placeB; exact decide_eq_false (by omega)
        rw [hR]
        have e2 : decide (p < h) = false := decide_eq_false h2
        clear hR h0 h1 h2
        go_enter Try.func32, Try.ntmps32
        go_wp2
        go_ret
        exact ⟨rfl, rfl⟩
    · have hR : placeB p h = false := by unfold placeB; exact decide_eq_false (by omega)
      rw [hR]
      have e1 : decide (2 ≤ (p : Int)) = false := decide_eq_false (by omega)
      clear hR h0 h1
      go_enter Try.func32, Try.ntmps32
      go_wp2
      go_ret
      exact ⟨rfl, rfl⟩

theorem mRightB_parts (t r h f : Nat) (a b c : Bool) (h0 : decide (0 < t ∧ 2 ≤ h ∧ h ≤ 16384) = a) (h1 : placeB r h = b) (h2 : placeB f h = c) : mRightB t r h f = (a && b && c) := by
  unfold mRightB
  rw [h0, h1, h2]

set_option maxRecDepth 100000 in
set_option maxHeartbeats 4000000 in
theorem mright_any (t r h f : Nat) (w : World) (ht : t < 18446744073709551616) (hr : r < 4294967296) (hh : h < 4294967296) (hf : f < 4294967296) :
    Calls Try.prog 13 #[.agg #[.int .u64 t, .int .u32 r, .int .u32 h, .int .u32 f]] w fun e w' => e = .returned (.bool (mRightB t r h f)) ∧ Below w.heap.size w w' := by
  have P1 := Lib.hid (fun w => place_any r h w hr hh)
  have P2 := Lib.hid (fun w => place_any f h w hf hh)
  by_cases h1 : 0 < t
  · by_cases h2 : 2 ≤ h
    · by_cases h3 : h ≤ 16384
      · have d0 : decide (0 < (t : Int)) = true := decide_eq_true (by omega)
        have d1 : decide (2 ≤ (h : Int)) = true := decide_eq_true (by omega)
        have d2 : decide ((h : Int) ≤ 16384) = true := decide_eq_true (by omega)
        have h0 : decide (0 < t ∧ 2 ≤ h ∧ h ≤ 16384) = true := decide_eq_true ⟨h1, h2, h3⟩
        cases hp : placeB r h with
        | false =>
          rw [mRightB_parts t r h f true false _ h0 hp rfl, Bool.and_false, Bool.false_and]
          rw [hp] at P1
          clear h0 hp
          go_enter Try.func13, Try.ntmps13
          go_wp2_with fail
          refine (P1.out _).mono ?_
          rintro e w1 ⟨rfl, rfl⟩
          go_wp2
          go_ret
          exact ⟨rfl, bl_al (bl_re w) _⟩
        | true =>
          rw [hp] at P1
          cases hq : placeB f h with
          | false =>
            rw [mRightB_parts t r h f true true false h0 hp hq]
            rw [hq] at P2
            clear h0 hp hq
            go_enter Try.func13, Try.ntmps13
            go_wp2_with fail
            refine (P1.out _).mono ?_
            rintro e w1 ⟨rfl, rfl⟩
            go_wp2_with fail
            refine (P2.out _).mono ?_
            rintro e w2 ⟨rfl, rfl⟩
            go_wp2
            go_ret
            exact ⟨rfl, bl_al (bl_re w) _⟩
          | true =>
            rw [mRightB_parts t r h f true true true h0 hp hq]
            rw [hq] at P2
            clear h0 hp hq
            go_enter Try.func13, Try.ntmps13
            go_wp2_with fail
            refine (P1.out _).mono ?_
            rintro e w1 ⟨rfl, rfl⟩
            go_wp2_with fail
            refine (P2.out _).mono ?_
            rintro e w2 ⟨rfl, rfl⟩
            go_wp2
            go_ret
            exact ⟨rfl, bl_al (bl_re w) _⟩
      · rw [mRightB_parts t r h f false _ _ (decide_eq_false (by omega)) rfl rfl, Bool.false_and, Bool.false_and]
        have d0 : decide (0 < (t : Int)) = true := decide_eq_true (by omega)
        have d1 : decide (2 ≤ (h : Int)) = true := decide_eq_true (by omega)
        have d2 : decide ((h : Int) ≤ 16384) = false := decide_eq_false (by omega)
        clear P1 P2
        go_enter Try.func13, Try.ntmps13
        go_wp2
        go_ret
        exact ⟨rfl, bl_al (bl_re w) _⟩
    · rw [mRightB_parts t r h f false _ _ (decide_eq_false (by omega)) rfl rfl, Bool.false_and, Bool.false_and]
      have d0 : decide (0 < (t : Int)) = true := decide_eq_true (by omega)
      have d1 : decide (2 ≤ (h : Int)) = false := decide_eq_false (by omega)
      clear P1 P2
      go_enter Try.func13, Try.ntmps13
      go_wp2
      go_ret
      exact ⟨rfl, bl_al (bl_re w) _⟩
  · rw [mRightB_parts t r h f false _ _ (decide_eq_false (by omega)) rfl rfl, Bool.false_and, Bool.false_and]
    have d0 : decide (0 < (t : Int)) = false := decide_eq_false (by omega)
    clear P1 P2
    go_enter Try.func13, Try.ntmps13
    go_wp2
    go_ret
    exact ⟨rfl, bl_al (bl_re w) _⟩

set_option maxRecDepth 100000 in
set_option maxHeartbeats 1000000 in
theorem mnumber_any (s : ByteArray) (w : World) (hs : s.size ≤ 8) :
    Calls Try.prog 33 #[.string s] w fun e w' => e = .returned (.int .u64 (Sm.num s.data.toList : Nat)) ∧ w = w' := by
  go_enter Try.func33, Try.ntmps33
  go_wp2
  go_loop [3, 7] (fun v i => ∃ k : Nat, k ≤ s.size ∧ i = .int .i64 k ∧ v = .int .u64 (Sm.num (s.data.toList.take k) : Nat)) (fun _ i => s.size - (intOf i).toNat)
  case atStart => exact ⟨0, by omega, rfl, rfl⟩
  case round =>
    obtain ⟨k, hk, rfl, rfl⟩ := hrel
    by_cases hlt : k < s.size
    · go_wp2
      have hlen : (s.data.toList.take k).length = k := by rw [List.length_take, ba_length]; omega
      refine ⟨⟨k + 1, by omega, by go_num, ?_⟩, by simp [intOf]; omega⟩
      rw [get_step _ _ (num_lt7 _ (by omega)) (UInt8.toNat_lt _), Sm.take_snoc s k hlt, Sm.num_snoc]
    · obtain rfl : k = s.size := by omega
      go_wp2
      go_ret
      exact ⟨ret_int (by rw [List.take_of_length_le (by rw [ba_length]; exact Nat.le_refl _)]), rfl⟩

/-- Numbers, as a slice of them lies. -/
def NumsAt (w : World) (g : Nat) (fs : List Nat) : Prop := ∀ (j n : Nat), fs[j]? = some n → w.cell? ⟨g, j, none⟩ = some (.int .u64 (n : Int))
def numsL (k0 : Nat) (fs : List Nat) : List UInt8 := fs.flatMap fun n => be k0 n
theorem numsL_snoc (k0 : Nat) (fs : List Nat) (k n : Nat) (h : fs[k]? = some n) : numsL k0 (fs.take (k + 1)) = numsL k0 (fs.take k) ++ be k0 n := by
  obtain ⟨hk, rfl⟩ := List.getElem?_eq_some_iff.1 h
  unfold numsL
  rw [List.take_succ_eq_append_getElem hk, List.flatMap_append]
  simp
theorem numsL_len (k0 : Nat) : ∀ (fs : List Nat), (numsL k0 fs).length = fs.length * k0
  | [] => by simp [numsL]
  | n :: fs => by
    have ih := numsL_len k0 fs
    simp only [numsL, List.flatMap_cons, List.length_append, be_length, List.length_cons, Nat.add_mul, Nat.one_mul] at ih ⊢
    omega

set_option maxRecDepth 100000 in
set_option maxHeartbeats 2000000 in
theorem mput_any (k0 g : Nat) (fs : List Nat) (m cap : Nat) (w : World) (hm : fs.length = m) (h1 : 1 ≤ m) (hm4 : m ≤ 1000) (h0 : 1 ≤ k0 ∧ k0 ≤ 8) (hf : ∀ p ∈ fs, p < 18446744073709551616) (hg : g < w.heap.size) (hat : NumsAt w g fs) :
    Calls Try.prog 29 #[.int .i64 (k0 : Int), .slice (some ⟨g, 0, none⟩) m cap] w fun e w' => e = .returned (.string (mk (numsL k0 fs))) ∧ Below w.heap.size w w' := by
  obtain ⟨j0, hi0, hz0, hz1, hz2⟩ := info_parts info_u8
  have HI := Lib.hid (And.intro hz1 hz2)
  have HA := Lib.hid (And.intro hm (And.intro hf hat))
  have HK := Lib.hid h0
  have hk8 : k0 ≤ 8 := h0.2
  clear hz1 hz2 hm hf hat h0
  go_enter Try.func29, Try.ntmps29
  go_wp2
  go_loopw [5, 11] (fun v i wr => ∃ k : Nat, k ≤ m ∧ i = .int .i64 k ∧ wr.ownsRow w.heap.size 5 1 v (numsL k0 (fs.take k)).length (u8s (numsL k0 (fs.take k))) ∧ Below w.heap.size w wr) (fun _ i _ => m - (intOf i).toNat)
  case atStart => exact ⟨0, by omega, rfl, World.ownsRow_nil _ _ _ _, Below.refl _ _⟩
  case round =>
    obtain ⟨k, hk, rfl, hrest⟩ := hrel
    have HR := Lib.hid hrest
    clear hrest
    by_cases hlt : k < m
    · obtain ⟨n, hp⟩ : ∃ p, fs[k]? = some p := ⟨_, List.getElem?_eq_getElem (by rw [HA.out.1]; exact hlt)⟩
      have c0 := HA.out.2.2 k _ hp
      have q0 : wr.cell? ⟨g, k, none⟩ = some (.int .u64 (n : Int)) := (HR.out.2.cell (p := ⟨g, _, none⟩) hg).trans c0
      have i0 : (0 : Int) ≤ (k : Int) := Int.natCast_nonneg _
      have i1 : (k : Int) < (m : Int) := by omega
      have HL := Lib.hid (numsL_snoc k0 fs k _ hp)
      clear hp c0
      go_wp2_with fail
      obtain ⟨l0, hl0⟩ : ∃ l0, numsL k0 (fs.take k) = l0 := ⟨_, rfl⟩
      have HS := Lib.hid HR.out
      rw [hl0] at HS HL
      have HLen : Hid (l0.length ≤ 8000) := Lib.hid (by
        have h := numsL_len k0 (fs.take k)
        have h3 : (fs.take k).length ≤ 1000 := by rw [List.length_take]; omega
        have h2 : (fs.take k).length * k0 ≤ 1000 * 8 := Nat.mul_le_mul h3 hk8
        rw [hl0] at h
        omega)
      clear hl0 q0
      go_loopw [5, 8] (fun v i wr => ∃ (q : Nat) (l : List UInt8), q ≤ k0 ∧ i = .int .i64 ((q : Int) - 1) ∧ l.length + q = l0.length + k0 ∧ l ++ be q n = l0 ++ be k0 n ∧ wr.ownsRow w.heap.size 5 1 v l.length (u8s l) ∧ Below w.heap.size w wr) (fun _ i _ => (intOf i + 1).toNat)
      case atStart => exact ⟨k0, l0, by omega, rfl, rfl, rfl, HS.out.1, HS.out.2⟩
      case round =>
        obtain ⟨q, l, hq, rfl, hlen, hrest⟩ := hrel
        have HR := Lib.hid hrest
        clear hrest
        by_cases hlt : 0 < q
        · obtain ⟨q, rfl⟩ : ∃ m, q = m + 1 := ⟨q - 1, by omega⟩
          have ll : l.length ≤ 9000 := by have := HLen.out; omega
          go_wp2_with (at_builtin
                       refine wpList_append_own _ rfl (.tmp 21) (.tmp 27) 59 rfl w.heap.size 5 j0 (.int .u8 0) 1 1 Try.underlying59 hi0 hz0 HI.out.1 HI.out.2 rfl (by omega) _ l.length (u8s l) rfl (HR.out.2.1.alloc _) ⟨_, 0, none⟩ 1 1 [.int .u8 ((n : Int) / 2 ^ (8 * q) % 256)] rfl rfl
                         (World.news_of_block (cs := #[.int .u8 ((n : Int) / 2 ^ (8 * q) % 256)]) (t := 5) (fr := (0, 0)) (heap_alloc_new _ _)) (by simp [Value.oneCell']) (by unfold maxLen; omega) (by omega) (by have := HR.out.2.2.size; simp; omega) ?_
                       intro v' w7 hown hgrow _
                       have KB := Lib.hid (And.intro hown hgrow)
                       clear hown hgrow)
          obtain ⟨hown, hgrow⟩ := KB.out
          have hsz := hgrow.size
          rw [be_int, ← u8s_snoc] at hown
          refine ⟨⟨q, l ++ [UInt8.ofNat (n / 256 ^ q % 256)], by omega, by go_num, by rw [List.length_append, List.length_singleton]; omega, by rw [← be_step]; exact HR.out.1, by rw [List.length_append]; exact hown, ?_⟩, by simp [intOf]⟩
          refine ((HR.out.2.2.alloc HR.out.2.2.size _)).grown hgrow (by have := HR.out.2.2.size; simp; omega) (fun b hb => ?_)
          exact (HR.out.2.1.lt b hb).1
        · obtain rfl : q = 0 := by omega
          have hl : l = numsL k0 (fs.take (k + 1)) := by
            rw [HL.out, ← HR.out.1]
            simp [be]
          have HL2 := Lib.hid hl
          clear hl
          go_wp2
          refine ⟨⟨k + 1, by omega, by go_num, ?_, HR.out.2.2⟩, by simp [intOf]; omega⟩
          rw [← HL2.out]
          exact HR.out.2.1
    · obtain rfl : k = m := by omega
      have hfl : numsL k0 (fs.take k) = numsL k0 fs := by rw [List.take_of_length_le (by rw [HA.out.1]; exact Nat.le_refl _)]
      rw [hfl] at HR
      have hpos : 0 < (numsL k0 fs).length := by
        rw [numsL_len, HA.out.1]
        exact Nat.mul_pos (by omega) HK.out.1
      obtain ⟨gg, cp, rfl, _, hgl⟩ := HR.out.1.form hpos
      have hcv := conv_back (P := Try.prog) wr 59 9 5 gg cp _ _ Try.underlying59 Try.underlying5 Try.underlying9 rfl (own_bytes HR.out.1)
      have i2 : ¬ (k : Int) < (k : Int) := by omega
      clear hfl hpos
      go_wp2
      go_ret
      exact ⟨rfl, HR.out.2⟩
end Go.Proofs.Ytdaoiimjflplhaa
