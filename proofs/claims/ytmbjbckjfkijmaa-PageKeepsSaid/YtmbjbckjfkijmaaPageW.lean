/- Right, number and bytes of package page: what each call returns, and that it leaves whatever lay as it lay. Printed in part by wip/pagew.py. -/
import Derived.Test.YtmbjbckjfkijmaaRefPut
namespace Go.Proofs.Ytmbjbckjfkijmaa
open Go.RowKit Go.Shelf
set_option linter.unusedVariables false

set_option maxRecDepth 100000 in
set_option maxHeartbeats 4000000 in
theorem right_any (k : Int) (i t : Nat) (b : ByteArray) (w : World) (hk : -9223372036854775808 ≤ k ∧ k ≤ 9223372036854775807) (hi : i < 4294967296) (ht : t < 18446744073709551616) (hb : b.size ≤ maxLen) :
    Calls Try.prog 34 #[.agg #[.int .i64 k, .int .u32 i, .int .u64 t, .string b]] w fun e w' => e = .returned (.bool (rightB k i t b.size)) ∧ Below w.heap.size w w' := by
  unfold maxLen at hb
  by_cases h0 : 1 ≤ k ∧ k ≤ 3
  · have hk3 : k = 1 ∨ k = 2 ∨ k = 3 := by omega
    by_cases h1 : 2 ≤ i
    · by_cases h2 : i < 16384
      · by_cases h3 : 0 < t
        · by_cases h4 : b.size ≤ 237
          · rw [(rightB_iff k i t b.size).2 (by omega)]
            have d0 : decide (2 ≤ (i : Int)) = true := decide_eq_true (by omega)
            have d1 : decide ((i : Int) < 16384) = true := decide_eq_true (by omega)
            have d2 : decide (0 < (t : Int)) = true := decide_eq_true (by omega)
            have d3 : decide ((b.size : Int) ≤ 237) = true := decide_eq_true (by omega)
            clear h0 hk
            rcases hk3 with rfl | rfl | rfl
            all_goals
              go_enter Try.func34, Try.ntmps34
              go_wp2
              go_ret
              exact ⟨rfl, bl_al (bl_re w) _⟩
          · rw [rightB_not k i t b.size (by omega)]
            have d0 : decide (2 ≤ (i : Int)) = true := decide_eq_true (by omega)
            have d1 : decide ((i : Int) < 16384) = true := decide_eq_true (by omega)
            have d2 : decide (0 < (t : Int)) = true := decide_eq_true (by omega)
            have d3 : decide ((b.size : Int) ≤ 237) = false := decide_eq_false (by omega)
            clear h0 hk
            rcases hk3 with rfl | rfl | rfl
            all_goals
              go_enter Try.func34, Try.ntmps34
              go_wp2
              go_ret
              exact ⟨rfl, bl_al (bl_re w) _⟩
        · rw [rightB_not k i t b.size (by omega)]
          have d0 : decide (2 ≤ (i : Int)) = true := decide_eq_true (by omega)
          have d1 : decide ((i : Int) < 16384) = true := decide_eq_true (by omega)
          have d2 : decide (0 < (t : Int)) = false := decide_eq_false (by omega)
          clear h0 hk
          rcases hk3 with rfl | rfl | rfl
          all_goals
            go_enter Try.func34, Try.ntmps34
            go_wp2
            go_ret
            exact ⟨rfl, bl_al (bl_re w) _⟩
      · rw [rightB_not k i t b.size (by omega)]
        have d0 : decide (2 ≤ (i : Int)) = true := decide_eq_true (by omega)
        have d1 : decide ((i : Int) < 16384) = false := decide_eq_false (by omega)
        clear h0 hk
        rcases hk3 with rfl | rfl | rfl
        all_goals
          go_enter Try.func34, Try.ntmps34
          go_wp2
          go_ret
          exact ⟨rfl, bl_al (bl_re w) _⟩
    · rw [rightB_not k i t b.size (by omega)]
      have d0 : decide (2 ≤ (i : Int)) = false := decide_eq_false (by omega)
      clear h0 hk
      rcases hk3 with rfl | rfl | rfl
      all_goals
        go_enter Try.func34, Try.ntmps34
        go_wp2
        go_ret
        exact ⟨rfl, bl_al (bl_re w) _⟩
  · rw [rightB_not k i t b.size (by omega)]
    have d1 : (k == 1) = false := by simp; omega
    have d2 : (k == 2) = false := by simp; omega
    have d3 : (k == 3) = false := by simp; omega
    clear h0 hk
    go_enter Try.func34, Try.ntmps34
    go_wp2
    go_ret
    exact ⟨rfl, bl_al (bl_re w) _⟩

set_option maxRecDepth 100000 in
set_option maxHeartbeats 4000000 in
theorem rpright_any (k : Int) (i t : Nat) (b : ByteArray) (w : World) (hk : -9223372036854775808 ≤ k ∧ k ≤ 9223372036854775807) (hi : i < 4294967296) (ht : t < 18446744073709551616) (hb : b.size ≤ maxLen) :
    Calls Try.prog 35 #[.agg #[.int .i64 k, .int .u32 i, .int .u64 t, .string b]] w fun e w' => e = .returned (.bool (rightB k i t b.size)) ∧ Below w.heap.size w w' := by
  unfold maxLen at hb
  by_cases h1 : 1 ≤ k
  · by_cases h2 : k ≤ 3
    · by_cases h3 : 2 ≤ i
      · by_cases h4 : i < 16384
        · by_cases h5 : 0 < t
          · by_cases h6 : b.size ≤ 237
            · rw [(rightB_iff k i t b.size).2 (by omega)]
              have d0 : decide (1 ≤ k) = true := decide_eq_true (by omega)
              have d1 : decide (k ≤ 3) = true := decide_eq_true (by omega)
              have d2 : decide (2 ≤ (i : Int)) = true := decide_eq_true (by omega)
              have d3 : decide ((i : Int) < 16384) = true := decide_eq_true (by omega)
              have d4 : decide (1 ≤ (t : Int)) = true := decide_eq_true (by omega)
              have d5 : decide ((b.size : Int) ≤ 237) = true := decide_eq_true (by omega)
              go_enter Try.func35, Try.ntmps35
              go_wp2
              go_ret
              exact ⟨rfl, bl_al (bl_re w) _⟩
            · rw [rightB_not k i t b.size (by omega)]
              have d0 : decide (1 ≤ k) = true := decide_eq_true (by omega)
              have d1 : decide (k ≤ 3) = true := decide_eq_true (by omega)
              have d2 : decide (2 ≤ (i : Int)) = true := decide_eq_true (by omega)
              have d3 : decide ((i : Int) < 16384) = true := decide_eq_true (by omega)
              have d4 : decide (1 ≤ (t : Int)) = true := decide_eq_true (by omega)
              have d5 : decide ((b.size : Int) ≤ 237) = false := decide_eq_false (by omega)
              go_enter Try.func35, Try.ntmps35
              go_wp2
              go_ret
              exact ⟨rfl, bl_al (bl_re w) _⟩
          · rw [rightB_not k i t b.size (by omega)]
            have d0 : decide (1 ≤ k) = true := decide_eq_true (by omega)
            have d1 : decide (k ≤ 3) = true := decide_eq_true (by omega)
            have d2 : decide (2 ≤ (i : Int)) = true := decide_eq_true (by omega)
            have d3 : decide ((i : Int) < 16384) = true := decide_eq_true (by omega)
            have d4 : decide (1 ≤ (t : Int)) = false := decide_eq_false (by omega)
            go_enter Try.func35, Try.ntmps35
            go_wp2
            go_ret
            exact ⟨rfl, bl_al (bl_re w) _⟩
        · rw [rightB_not k i t b.size (by omega)]
          have d0 : decide (1 ≤ k) = true := decide_eq_true (by omega)
          have d1 : decide (k ≤ 3) = true := decide_eq_true (by omega)
          have d2 : decide (2 ≤ (i : Int)) = true := decide_eq_true (by omega)
          have d3 : decide ((i : Int) < 16384) = false := decide_eq_false (by omega)
          go_enter Try.func35, Try.ntmps35
          go_wp2
          go_ret
          exact ⟨rfl, bl_al (bl_re w) _⟩
      · rw [rightB_not k i t b.size (by omega)]
        have d0 : decide (1 ≤ k) = true := decide_eq_true (by omega)
        have d1 : decide (k ≤ 3) = true := decide_eq_true (by omega)
        have d2 : decide (2 ≤ (i : Int)) = false := decide_eq_false (by omega)
        go_enter Try.func35, Try.ntmps35
        go_wp2
        go_ret
        exact ⟨rfl, bl_al (bl_re w) _⟩
    · rw [rightB_not k i t b.size (by omega)]
      have d0 : decide (1 ≤ k) = true := decide_eq_true (by omega)
      have d1 : decide (k ≤ 3) = false := decide_eq_false (by omega)
      go_enter Try.func35, Try.ntmps35
      go_wp2
      go_ret
      exact ⟨rfl, bl_al (bl_re w) _⟩
  · rw [rightB_not k i t b.size (by omega)]
    have d0 : decide (1 ≤ k) = false := decide_eq_false (by omega)
    go_enter Try.func35, Try.ntmps35
    go_wp2
    go_ret
    exact ⟨rfl, bl_al (bl_re w) _⟩

set_option maxRecDepth 100000 in
set_option maxHeartbeats 1000000 in
theorem number_any (s : ByteArray) (w : World) (hs : s.size ≤ 8) :
    Calls Try.prog 54 #[.string s] w fun e w' => e = .returned (.int .u64 (Sm.num s.data.toList : Nat)) ∧ w = w' := by
  go_enter Try.func54, Try.ntmps54
  go_wp2
  go_loop [3, 7] (fun v i => ∃ k : Nat, k ≤ s.size ∧ i = .int .i64 k ∧ v = .int .u64 (Sm.num (s.data.toList.take k) : Nat)) (fun _ i => s.size - (intOf i).toNat)
  case atStart => exact ⟨0, by omega, rfl, rfl⟩
  case round =>
    obtain ⟨k, hk, rfl, rfl⟩ := hrel
    by_cases hlt : k < s.size
    · go_wp2
      have hlen : (s.data.toList.take k).length = k := by rw [List.length_take, ba_length]; omega
      refine ⟨⟨k + 1, by omega, by go_num, ?_⟩, by simp [intOf]; omega⟩
      rw [get_step _ _ (num_lt7 _ (by omega)) (UInt8.toNat_lt _), Sm.take_snoc s k hlt, Sm.num_snoc]
    · obtain rfl : k = s.size := by omega
      go_wp2
      go_ret
      exact ⟨ret_int (by rw [List.take_of_length_le (by rw [ba_length]; exact Nat.le_refl _)]), rfl⟩

/-- Fields, as a slice of them lies. -/
def FieldsAt (w : World) (g : Nat) (fs : List (Nat × Nat)) : Prop := ∀ j p, fs[j]? = some p → w.cell? ⟨g, j * 2, none⟩ = some (.int .u64 (p.1 : Int)) ∧ w.cell? ⟨g, j * 2 + 1, none⟩ = some (.int .i64 (p.2 : Int))
theorem FieldsAt.below {w w' : World} {g B : Nat} {fs : List (Nat × Nat)} (h : FieldsAt w g fs) (hb : Below B w w') (hg : g < B) : FieldsAt w' g fs := fun j p hj => ⟨(hb.cell (p := ⟨g, _, none⟩) hg).trans (h j p hj).1, (hb.cell (p := ⟨g, _, none⟩) hg).trans (h j p hj).2⟩
def fieldsL (fs : List (Nat × Nat)) : List UInt8 := fs.flatMap fun p => be p.2 p.1
theorem fieldsL_snoc (fs : List (Nat × Nat)) (k : Nat) (p : Nat × Nat) (h : fs[k]? = some p) : fieldsL (fs.take (k + 1)) = fieldsL (fs.take k) ++ be p.2 p.1 := by
  obtain ⟨hk, rfl⟩ := List.getElem?_eq_some_iff.1 h
  unfold fieldsL
  rw [List.take_succ_eq_append_getElem hk, List.flatMap_append]
  simp
theorem fieldsL_le : ∀ (fs : List (Nat × Nat)), (∀ p ∈ fs, p.2 ≤ 8) → (fieldsL fs).length ≤ fs.length * 8
  | [], _ => by simp [fieldsL]
  | p :: fs, h => by
    have ih := fieldsL_le fs fun q hq => h q (List.mem_cons_of_mem _ hq)
    have := h p (List.mem_cons_self ..)
    simp only [fieldsL, List.flatMap_cons, List.length_append, be_length, List.length_cons] at ih ⊢
    omega
/-- Two blocks of different types are two. -/
theorem own_ne {w : World} {base size n g : Nat} {e t : TypeId} {v : Value} {xs : List Value} {cs : Array Value} (h : w.ownsRow base e size v n xs) (hb : Blk w g t cs) (ht : t ≠ e) : some g ≠ v.ownBlock := by
  rcases h.2 with ⟨rfl, _⟩ | ⟨g', cap, cur, rfl, _, hg, _⟩
  · simp [Value.ownBlock]
  · intro e'
    have e2 : g = g' := Option.some.inj e'
    subst e2
    unfold Blk at hb
    rw [hb] at hg
    exact ht (by injection (Option.some.inj hg))

set_option maxRecDepth 100000 in
set_option maxHeartbeats 2000000 in
theorem bytes_any (g : Nat) (fs : List (Nat × Nat)) (m cap : Nat) (w : World) (hm : fs.length = m) (h1 : 1 ≤ m) (hm4 : m ≤ 1000) (hf : ∀ p ∈ fs, p.1 < 18446744073709551616 ∧ 1 ≤ p.2 ∧ p.2 ≤ 8) (hg : g < w.heap.size) (hat : FieldsAt w g fs) :
    Calls Try.prog 50 #[.slice (some ⟨g, 0, none⟩) m cap] w fun e w' => e = .returned (.string (mk (fieldsL fs))) ∧ Below w.heap.size w w' := by
  obtain ⟨j0, hi0, hz0, hz1, hz2⟩ := info_parts info_u8
  have HI := Lib.hid (And.intro hz1 hz2)
  have HA := Lib.hid (And.intro hm (And.intro hf hat))
  clear hz1 hz2 hm hf hat
  go_enter Try.func50, Try.ntmps50
  go_wp2
  go_loopw [3, 9] (fun v i wr => ∃ k : Nat, k ≤ m ∧ i = .int .i64 k ∧ wr.ownsRow w.heap.size 5 1 v (fieldsL (fs.take k)).length (u8s (fieldsL (fs.take k))) ∧ Below w.heap.size w wr) (fun _ i _ => m - (intOf i).toNat)
  case atStart => exact ⟨0, by omega, rfl, World.ownsRow_nil _ _ _ _, Below.refl _ _⟩
  case round =>
    obtain ⟨k, hk, rfl, hrest⟩ := hrel
    have HR := Lib.hid hrest
    clear hrest
    by_cases hlt : k < m
    · obtain ⟨⟨n, k0⟩, hp⟩ : ∃ p, fs[k]? = some p := ⟨_, List.getElem?_eq_getElem (by rw [HA.out.1]; exact hlt)⟩
      obtain ⟨c0, c1⟩ := HA.out.2.2 k _ hp
      obtain ⟨b0, b1, b2⟩ := HA.out.2.1 _ (List.mem_of_getElem? hp)
      dsimp only at c0 c1 b0 b1 b2
      have q0 : wr.cell? ⟨g, k * 2, none⟩ = some (.int .u64 (n : Int)) := (HR.out.2.cell (p := ⟨g, _, none⟩) hg).trans c0
      have q1 : wr.cell? ⟨g, k * 2 + 1, none⟩ = some (.int .i64 (k0 : Int)) := (HR.out.2.cell (p := ⟨g, _, none⟩) hg).trans c1
      have i0 : (0 : Int) ≤ (k : Int) := Int.natCast_nonneg _
      have i1 : (k : Int) < (m : Int) := by omega
      have HP := Lib.hid hp
      clear hp c0 c1
      go_wp2_with fail
      have hFn : Blk (wr.alloc (.cells #[.int .u64 (n : Int), .int .i64 (k0 : Int)] 96)) wr.heap.size 96 #[.int .u64 (n : Int), .int .i64 (k0 : Int)] := Blk.new _ _ _
      have hRn := HR.out.1.alloc (.cells #[.int .u64 (n : Int), .int .i64 (k0 : Int)] 96)
      have hBn := bl_al HR.out.2 (.cells #[.int .u64 (n : Int), .int .i64 (k0 : Int)] 96)
      obtain ⟨wo, hwo⟩ : ∃ wo, wr.alloc (.cells #[.int .u64 (n : Int), .int .i64 (k0 : Int)] 96) = wo := ⟨_, rfl⟩
      rw [hwo] at hFn hRn hBn ⊢
      obtain ⟨bf, hbf⟩ : ∃ bf, wr.heap.size = bf := ⟨_, rfl⟩
      rw [hbf] at hFn ⊢
      have HS := Lib.hid (And.intro hFn (And.intro hRn hBn))
      have HL := Lib.hid (fieldsL_snoc fs k _ HP.out)
      obtain ⟨l0, hl0⟩ : ∃ l0, fieldsL (fs.take k) = l0 := ⟨_, rfl⟩
      rw [hl0] at HS HL
      have HLen : Hid (l0.length ≤ 8000) := Lib.hid (by
        have h := fieldsL_le (fs.take k) (fun p hp => (HA.out.2.1 p (List.mem_of_mem_take hp)).2.2)
        rw [hl0, List.length_take] at h
        omega)
      clear hFn hRn hBn hwo hbf hl0 q0 q1
      go_loopw [3, 6] (fun v i wr => ∃ (q : Nat) (l : List UInt8), q ≤ k0 ∧ i = .int .i64 ((q : Int) - 1) ∧ l.length + q = l0.length + k0 ∧ l ++ be q n = l0 ++ be k0 n ∧ wr.ownsRow w.heap.size 5 1 v l.length (u8s l) ∧ Below w.heap.size w wr ∧ Blk wr bf 96 #[.int .u64 (n : Int), .int .i64 (k0 : Int)]) (fun _ i _ => (intOf i + 1).toNat)
      case atStart => exact ⟨k0, l0, by omega, rfl, rfl, rfl, HS.out.2.1, HS.out.2.2, HS.out.1⟩
      case round =>
        obtain ⟨q, l, hq, rfl, hlen, hrest⟩ := hrel
        have HR := Lib.hid hrest
        clear hrest
        by_cases hlt : 0 < q
        · obtain ⟨q, rfl⟩ : ∃ m, q = m + 1 := ⟨q - 1, by omega⟩
          have q0 := HR.out.2.2.2.cell 0
          have ll : l.length ≤ 9000 := by have := HLen.out; omega
          go_wp2_with (at_builtin
                       refine wpList_append_own _ rfl (.tmp 20) (.tmp 27) 64 rfl w.heap.size 5 j0 (.int .u8 0) 1 1 Try.underlying64 hi0 hz0 HI.out.1 HI.out.2 rfl (by omega) _ l.length (u8s l) rfl (HR.out.2.1.alloc _) ⟨_, 0, none⟩ 1 1 [.int .u8 ((n : Int) / 2 ^ (8 * q) % 256)] rfl rfl
                         (World.news_of_block (cs := #[.int .u8 ((n : Int) / 2 ^ (8 * q) % 256)]) (t := 5) (fr := (0, 0)) (heap_alloc_new _ _)) (by simp [Value.oneCell']) (by unfold maxLen; omega) (by omega) (by have := HR.out.2.2.1.size; simp; omega) ?_
                       intro v' w7 hown hgrow _
                       have KB := Lib.hid (And.intro hown hgrow)
                       clear hown hgrow)
          obtain ⟨hown, hgrow⟩ := KB.out
          have hne := own_ne HR.out.2.1 HR.out.2.2.2 (by decide)
          have hsz := hgrow.size
          rw [be_int, ← u8s_snoc] at hown
          refine ⟨⟨q, l ++ [UInt8.ofNat (n / 256 ^ q % 256)], by omega, by go_num, by rw [List.length_append, List.length_singleton]; omega, by rw [← be_step]; exact HR.out.1, by rw [List.length_append]; exact hown, ?_, (HR.out.2.2.2.alloc _).grown hgrow hne⟩, by simp [intOf]⟩
          refine ((HR.out.2.2.1.alloc HR.out.2.2.1.size _)).grown hgrow (by have := HR.out.2.2.1.size; simp; omega) (fun b hb => ?_)
          exact (HR.out.2.1.lt b hb).1
        · obtain rfl : q = 0 := by omega
          have hl : l = fieldsL (fs.take (k + 1)) := by
            rw [HL.out, ← HR.out.1]
            simp [be]
          have HL2 := Lib.hid hl
          clear hl
          go_wp2
          refine ⟨⟨k + 1, by omega, by go_num, ?_, HR.out.2.2.1⟩, by simp [intOf]; omega⟩
          rw [← HL2.out]
          exact HR.out.2.1
    · obtain rfl : k = m := by omega
      have hfl : fieldsL (fs.take k) = fieldsL fs := by rw [List.take_of_length_le (by rw [HA.out.1]; exact Nat.le_refl _)]
      rw [hfl] at HR
      have hpos : 0 < (fieldsL fs).length := by
        obtain ⟨p, hp⟩ : ∃ p, fs[0]? = some p := ⟨_, List.getElem?_eq_getElem (by rw [HA.out.1]; omega)⟩
        have h2 := (HA.out.2.1 p (List.mem_of_getElem? hp)).2.1
        have h3 : (be p.2 p.1).length ≤ (fieldsL fs).length := by
          have := fieldsL_snoc fs 0 p hp
          have h4 : fieldsL fs = fieldsL (fs.take 1) ++ fieldsL (fs.drop 1) := by unfold fieldsL; rw [← List.flatMap_append, List.take_append_drop]
          rw [h4, this]
          simp only [List.length_append]
          omega
        rw [be_length] at h3
        omega
      obtain ⟨gg, cp, rfl, _, hgl⟩ := HR.out.1.form hpos
      have hcv := conv_back (P := Try.prog) wr 64 9 5 gg cp _ _ Try.underlying64 Try.underlying5 Try.underlying9 rfl (own_bytes HR.out.1)
      have i2 : ¬ (k : Int) < (k : Int) := by omega
      clear hfl hpos
      go_wp2
      go_ret
      exact ⟨rfl, HR.out.2⟩
end Go.Proofs.Ytmbjbckjfkijmaa
