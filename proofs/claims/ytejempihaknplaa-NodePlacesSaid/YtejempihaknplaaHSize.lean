/- Size of package node: how many bytes a node has. Whatever lay lies as it lay. Condition: at most 100000 elements in each list. -/
import Derived.Test.YtejempihaknplaaNdA
import Derived.Test.YtejempihaknplaaNdP
import Derived.Test.YtejempihaknplaaRow
namespace Go.Proofs.Ytejempihaknplaa.G
open Go.RowKit Go.Shelf Go.Proofs.YtejempihaknplaaW.PrintWords Go.Proofs.YtejempihaknplaaW.PrintLast Go.Proofs.YtejempihaknplaaW.PrintMore
set_option linter.unusedVariables false
attribute [local go_sem] Oper.semAt_some

/-! ### the sum, part by part -/
def szAt (i : Nat) (q : ByteArray × ByteArray × Int) : Nat := if q.2.2 = 0 then 2 + q.1.size + q.2.1.size else if i = 0 then 4 else 5 + q.1.size
def totN (L : List (ByteArray × ByteArray × Int)) (k : Nat) : Nat := 1 + ((L.zipIdx.take k).map fun x => szAt x.2 x.1).sum
theorem totN_zero (L : List (ByteArray × ByteArray × Int)) : totN L 0 = 1 := by simp [totN]
theorem totN_succ (L : List (ByteArray × ByteArray × Int)) (k : Nat) (q : ByteArray × ByteArray × Int) (h : L[k]? = some q) : totN L (k + 1) = totN L k + szAt k q := by
  have hk := (List.getElem?_eq_some_iff.1 h)
  obtain ⟨hk, rfl⟩ := hk
  unfold totN
  rw [List.take_succ_eq_append_getElem (by simpa using hk)]
  simp
  omega
/-- What is known of each part of a right node. -/
def PartOk (q : ByteArray × ByteArray × Int) : Prop := q.1.size ≤ 24 ∧ q.2.1.size ≤ 60 ∧ 0 ≤ q.2.2
theorem szAt_le {i : Nat} {q : ByteArray × ByteArray × Int} (h : PartOk q) : szAt i q ≤ 86 := by
  unfold szAt
  obtain ⟨h1, h2, _⟩ := h
  split
  · omega
  · split <;> omega
theorem totN_le (L : List (ByteArray × ByteArray × Int)) (h : ∀ q ∈ L, PartOk q) : ∀ k, totN L k ≤ 1 + 86 * k
  | 0 => by rw [totN_zero]; omega
  | k + 1 => by
    have ih := totN_le L h k
    by_cases hk : k < L.length
    · rw [totN_succ L k L[k] (List.getElem?_eq_getElem hk)]
      have := szAt_le (i := k) (h L[k] (List.getElem_mem hk))
      omega
    · have e : totN L (k + 1) = totN L k := by
        unfold totN
        rw [List.take_of_length_le (by simp; omega), List.take_of_length_le (by simp; omega)]
      omega
theorem leaf_facts {ps : List S39} {ks : List ByteArray} {kd : List Int} (h : leafB ps ks kd = true) : ks = [] ∧ kd = [] ∧ ps.length ≤ 255 ∧ (∀ p ∈ ps, pOk p = true) ∧ risesB (ps.map (·.f0)) = true := by
  simp only [leafB, Bool.and_eq_true, List.isEmpty_iff, decide_eq_true_eq, List.all_eq_true] at h
  exact ⟨h.1.1.1.1, h.1.1.1.2, h.1.1.2, h.1.2, h.2⟩
theorem branch_facts {ps : List S39} {ks : List ByteArray} {kd : List Int} (h : branchB ps ks kd = true) : ps = [] ∧ 1 ≤ kd.length ∧ kd.length ≤ 255 ∧ ks.length + 1 = kd.length ∧ (∀ k ∈ kd, kidOk k = true) ∧ (∀ k ∈ ks, kOk k = true) ∧ risesB ks = true := by
  simp only [branchB, Bool.and_eq_true, List.isEmpty_iff, decide_eq_true_eq, List.all_eq_true] at h
  exact ⟨h.1.1.1.1.1.1, h.1.1.1.1.1.2, h.1.1.1.1.2, h.1.1.1.2, h.1.1.2, h.1.2, h.2⟩
theorem right_or {ps : List S39} {ks : List ByteArray} {kd : List Int} (h : rightB ps ks kd = true) : leafB ps ks kd = true ∨ branchB ps ks kd = true := by
  unfold rightB at h
  rwa [Bool.or_eq_true] at h
theorem right_facts {ps : List S39} {ks : List ByteArray} {kd : List Int} (h : rightB ps ks kd = true) : kd.length ≤ ks.length + 1 ∧ ps.length + kd.length ≤ 255 ∧ (∀ q ∈ partsL ps ks kd, PartOk q) ∧ totN (partsL ps ks kd) (ps.length + kd.length) = sizeN ps ks kd := by
  rcases right_or h with h | h
  · obtain ⟨rfl, rfl, h1, h2, _⟩ := leaf_facts h
    refine ⟨by simp, by simpa using h1, ?_, ?_⟩
    · intro q hq
      simp only [partsL, List.zipIdx_nil, List.map_nil, List.append_nil, List.mem_map] at hq
      obtain ⟨p, hp, rfl⟩ := hq
      have := h2 p hp
      simp only [pOk, kOk, Bool.and_eq_true, decide_eq_true_eq] at this
      exact ⟨this.1.2, this.2, Int.le_refl _⟩
    · unfold totN sizeN sumP
      rw [List.take_of_length_le (by simp [partsL])]
      simp only [partsL, List.zipIdx_nil, List.map_nil, List.append_nil, List.isEmpty_nil, if_true]
      congr 1
      congr 1
      apply List.ext_getElem
      · simp
      · intro i h1 h2
        simp [szAt]
  · obtain ⟨rfl, h1, h2, h3, h4, h5, _⟩ := branch_facts h
    refine ⟨by omega, by simpa using h2, ?_, ?_⟩
    · intro q hq
      simp only [partsL, List.map_nil, List.nil_append, List.mem_map] at hq
      obtain ⟨⟨d, i⟩, hd, rfl⟩ := hq
      have hm := List.mem_zipIdx hd
      have he0 : (⟨#[]⟩ : ByteArray).size = 0 := rfl
      refine ⟨?_, ?_, ?_⟩
      · show (partK ks i).size ≤ 24
        unfold partK
        split
        · omega
        · rename_i h0
          rw [List.getD_eq_getElem?_getD]
          rcases Nat.lt_or_ge (i - 1) ks.length with hlt | hge
          · rw [List.getElem?_eq_getElem hlt]
            have := h5 _ (List.getElem_mem hlt)
            simp only [kOk, Bool.and_eq_true, decide_eq_true_eq] at this
            exact this.2
          · rw [List.getElem?_eq_none hge]
            show (⟨#[]⟩ : ByteArray).size ≤ 24
            omega
      · show (⟨#[]⟩ : ByteArray).size ≤ 60
        omega
      · show 0 ≤ d
        have := h4 d (by rw [hm.2.2]; exact List.getElem_mem _)
        simp only [kidOk, Bool.and_eq_true, decide_eq_true_eq] at this
        omega
    · have e : ((partsL [] ks kd).zipIdx.map fun x => szAt x.2 x.1) = 4 :: ks.map fun k => 5 + k.size := by
        apply List.ext_getElem
        · simp [partsL]; omega
        · intro i g1 g2
          have hi : i < kd.length := by simpa [partsL] using g1
          have hkd := h4 kd[i] (List.getElem_mem hi)
          simp only [kidOk, Bool.and_eq_true, decide_eq_true_eq] at hkd
          have hz : ¬ kd[i] = 0 := by omega
          cases i with
          | zero => simp [partsL, szAt, hz]
          | succ i =>
            have hik : i < ks.length := by omega
            simp [partsL, szAt, partK, hz, List.getElem?_eq_getElem hik]
      have hne : kd.isEmpty = false := by
        cases kd with
        | nil => simp at h1
        | cons _ _ => rfl
      unfold totN sizeN sumK
      rw [List.take_of_length_le (by simp [partsL]), e, hne]
      simp only [List.sum_cons, Bool.false_eq_true, if_false]
      omega

set_option maxHeartbeats 400000 in
theorem size_no (A0_0 : Option Addr) (c0_0 : Nat) (l0_0 : List S39) (A0_1 : Option Addr) (c0_1 : Nat) (l0_1 : List ByteArray) (A0_2 : Option Addr) (c0_2 : Nat) (l0_2 : List Int) (w : World) (hr0_0 : Kd.C k39 w A0_0 l0_0.length l0_0) (hc0_0 : l0_0.length ≤ c0_0) (hr0_1 : Kd.C Kd.string w A0_1 l0_1.length l0_1) (hc0_1 : l0_1.length ≤ c0_1) (hr0_2 : Kd.C (Kd.int .u32) w A0_2 l0_2.length l0_2) (hc0_2 : l0_2.length ≤ c0_2)
    (hs : smallB l0_0 l0_1 l0_2 = true) (hr : rightB l0_0 l0_1 l0_2 = false) :
    Calls Try.prog 16 #[.agg #[.slice A0_0 l0_0.length c0_0, .slice A0_1 l0_1.length c0_1, .slice A0_2 l0_2.length c0_2]] w fun e w' => e = .returned (.int .i64 0) ∧ Below w.heap.size w w' := by
  have H := Lib.hid (fun W => fun hb : Below w.heap.size w W => node_Right.calls 400011 A0_0 c0_0 l0_0 A0_1 c0_1 l0_1 A0_2 c0_2 l0_2 _ W (Kd.C_below hr0_0 hb) hc0_0 (Kd.C_below hr0_1 hb) hc0_1 (Kd.C_below hr0_2 hb) hc0_2 (right_eq l0_0 l0_1 l0_2 hs _ (by omega)))
  rw [hr] at H
  have HB := Lib.hid ((Below.refl w.heap.size w).alloc (Nat.le_refl _) (.cells #[.slice A0_0 l0_0.length c0_0, .slice A0_1 l0_1.length c0_1, .slice A0_2 l0_2.length c0_2] 26))
  clear hr0_0 hc0_0 hr0_1 hc0_1 hr0_2 hc0_2 hs hr
  go_enter Try.func16, Try.ntmps16
  go_wp2_with fail
  refine (H.out _ HB.out).mono ?_
  rintro e w1 ⟨rfl, hb1⟩
  go_wp2
  go_ret
  exact ⟨rfl, bl_tr HB.out hb1⟩

theorem psize_eq (q : ByteArray × ByteArray × Int) (i : Nat) (h : PartOk q) : node_part_size.f q.1 q.2.1 q.2.2 (decide (i = 0)) = some (szAt i q : Int) := by
  obtain ⟨h1, h2, _⟩ := h
  unfold node_part_size.f szAt
  split
  · congr 1
    unfold wrap64
    omega
  · by_cases h0 : i = 0
    · simp [h0]
    · simp only [h0, decide_false, Bool.false_eq_true, if_false]
      congr 1
      unfold wrap64
      omega

set_option maxRecDepth 100000 in
set_option maxHeartbeats 4000000 in
theorem size_yes (A0_0 : Option Addr) (c0_0 : Nat) (l0_0 : List S39) (A0_1 : Option Addr) (c0_1 : Nat) (l0_1 : List ByteArray) (A0_2 : Option Addr) (c0_2 : Nat) (l0_2 : List Int) (w : World) (hr0_0 : Kd.C k39 w A0_0 l0_0.length l0_0) (hc0_0 : l0_0.length ≤ c0_0) (hr0_1 : Kd.C Kd.string w A0_1 l0_1.length l0_1) (hc0_1 : l0_1.length ≤ c0_1) (hr0_2 : Kd.C (Kd.int .u32) w A0_2 l0_2.length l0_2) (hc0_2 : l0_2.length ≤ c0_2)
    (hs : smallB l0_0 l0_1 l0_2 = true) (hr : rightB l0_0 l0_1 l0_2 = true) :
    Calls Try.prog 16 #[.agg #[.slice A0_0 l0_0.length c0_0, .slice A0_1 l0_1.length c0_1, .slice A0_2 l0_2.length c0_2]] w fun e w' => e = .returned (.int .i64 (sizeN l0_0 l0_1 l0_2 : Int)) ∧ Below w.heap.size w w' := by
  obtain ⟨f1, f2, f3, f4⟩ := right_facts hr
  have H := Lib.hid (fun W => fun hb : Below w.heap.size w W => node_Right.calls 400011 A0_0 c0_0 l0_0 A0_1 c0_1 l0_1 A0_2 c0_2 l0_2 _ W (Kd.C_below hr0_0 hb) hc0_0 (Kd.C_below hr0_1 hb) hc0_1 (Kd.C_below hr0_2 hb) hc0_2 (right_eq l0_0 l0_1 l0_2 hs _ (by omega)))
  rw [hr] at H
  have HB := Lib.hid ((Below.refl w.heap.size w).alloc (Nat.le_refl _) (.cells #[.slice A0_0 l0_0.length c0_0, .slice A0_1 l0_1.length c0_1, .slice A0_2 l0_2.length c0_2] 26))
  have HC := Lib.hid (And.intro hr0_0 (And.intro hr0_1 (And.intro hr0_2 f1)))
  have HF := Lib.hid (And.intro f2 (And.intro f3 f4))
  have hbx := (Blk.new w 26 #[.slice A0_0 l0_0.length c0_0, .slice A0_1 l0_1.length c0_1, .slice A0_2 l0_2.length c0_2])
  have HX := Lib.hid hbx
  clear hr0_0 hc0_0 hr0_1 hc0_1 hr0_2 hc0_2 hs hr f1 f2 f3 f4 hbx
  refine (callsIn_wide (n := 9)).1 (callsIn_of_wp_marks Try.func16 rfl trivial ?_ rfl)
  simp only [Try.ntmps16, List.size_toArray, List.length_cons, List.length_nil, Nat.reduceAdd, Nat.reduceSub, Array.replicate_succ, Array.replicate_zero, List.push_toArray, List.append_toArray, List.nil_append, List.cons_append]
  gi_wp2_with fail
  refine ⟨trivial, ?_⟩
  refine (callsIn_wide.2 (H.out _ HB.out)).mono ?_
  rintro e w1 ⟨rfl, hb1⟩
  have hx1 := HX.out.below hb1 (by simp)
  have c0 : w1.cell? ⟨w.heap.size, 0, none⟩ = some (.slice A0_0 l0_0.length c0_0) := hx1.cell 0
  have c1 : w1.cell? ⟨w.heap.size, 1, none⟩ = some (.slice A0_1 l0_1.length c0_1) := hx1.cell 1
  have c2 : w1.cell? ⟨w.heap.size, 2, none⟩ = some (.slice A0_2 l0_2.length c0_2) := hx1.cell 2
  have hlt : w.heap.size < w1.heap.size := by have := hb1.size; simp at this; omega
  have hlt2 : w.heap.size < w1.heap.size + 1 := by omega
  have HB1 := Lib.hid (bl_tr HB.out hb1)
  clear hx1 hb1
  gi_wp2_with fail
  refine ⟨trivial, ?_⟩
  refine (callsIn_wide.2 (parts_any _ _ _ _ _ _ _ _ _ _)).mono ?_
  rintro e w2 ⟨rfl, rfl⟩
  gi_wp2_with fail
  have hB0 : Below w.heap.size w (((w1.alloc (.cells #[.int .i64 1] 3)).alloc (.cells #[.bool true] 4)).alloc (.cells #[.slice A0_0 l0_0.length c0_0, .slice A0_1 l0_1.length c0_1, .slice A0_2 l0_2.length c0_2] 26)) := bl_al (bl_al (bl_al HB1.out _) _) _
  have k0 : Blk (((w1.alloc (.cells #[.int .i64 1] 3)).alloc (.cells #[.bool true] 4)).alloc (.cells #[.slice A0_0 l0_0.length c0_0, .slice A0_1 l0_1.length c0_1, .slice A0_2 l0_2.length c0_2] 26)) w1.heap.size 3 #[.int .i64 1] := ((Blk.new w1 _ _).alloc _).alloc _
  have k1 : Blk (((w1.alloc (.cells #[.int .i64 1] 3)).alloc (.cells #[.bool true] 4)).alloc (.cells #[.slice A0_0 l0_0.length c0_0, .slice A0_1 l0_1.length c0_1, .slice A0_2 l0_2.length c0_2] 26)) (w1.heap.size + 1) 4 #[.bool true] := by
    have := (Blk.new (w1.alloc (.cells #[.int .i64 1] 3)) 4 #[.bool true]).alloc (.cells #[.slice A0_0 l0_0.length c0_0, .slice A0_1 l0_1.length c0_1, .slice A0_2 l0_2.length c0_2] 26)
    rw [World.size_alloc] at this
    exact this
  have k2 : Blk (((w1.alloc (.cells #[.int .i64 1] 3)).alloc (.cells #[.bool true] 4)).alloc (.cells #[.slice A0_0 l0_0.length c0_0, .slice A0_1 l0_1.length c0_1, .slice A0_2 l0_2.length c0_2] 26)) (w1.heap.size + 1 + 1) 26 #[.slice A0_0 l0_0.length c0_0, .slice A0_1 l0_1.length c0_1, .slice A0_2 l0_2.length c0_2] := by
    have := Blk.new ((w1.alloc (.cells #[.int .i64 1] 3)).alloc (.cells #[.bool true] 4)) 26 #[.slice A0_0 l0_0.length c0_0, .slice A0_1 l0_1.length c0_1, .slice A0_2 l0_2.length c0_2]
    rw [World.size_alloc, World.size_alloc] at this
    exact this
  have ksz : (((w1.alloc (.cells #[.int .i64 1] 3)).alloc (.cells #[.bool true] 4)).alloc (.cells #[.slice A0_0 l0_0.length c0_0, .slice A0_1 l0_1.length c0_1, .slice A0_2 l0_2.length c0_2] 26)).heap.size = w1.heap.size + 3 := by simp
  generalize (((w1.alloc (.cells #[.int .i64 1] 3)).alloc (.cells #[.bool true] 4)).alloc (.cells #[.slice A0_0 l0_0.length c0_0, .slice A0_1 l0_1.length c0_1, .slice A0_2 l0_2.length c0_2] 26)) = W0 at *
  clear c0 c1 c2 HB1 hlt2 H HB HX
  generalize w1.heap.size = M at *
  clear w1
  refine wpIn_rf rfl (fun h => by cases h) (gf := 60) (lb := #[.pointer (some ⟨M + 1 + 1, 0, none⟩)]) rfl trivial (enters_of Try.func60 (by kernel_rfl) rfl) ?_
  intro fn rec _ hrec
  obtain ⟨L, hL⟩ : ∃ L, partsL l0_0 l0_1 l0_2 = L := ⟨_, rfl⟩
  refine (parts1_in (9 - 1) (W0.heap.size + 1) (M + 1 + 1) A0_0 c0_0 l0_0 A0_1 c0_1 l0_1 A0_2 c0_2 l0_2 w HC.out.1 HC.out.2.1 HC.out.2.2.1 HC.out.2.2.2
    (fun k W => Blk W M 3 #[.int .i64 (totN L k : Int)] ∧ Blk W (M + 1) 4 #[.bool (decide (k = 0))] ∧ Blk W (M + 1 + 1) 26 #[.slice A0_0 l0_0.length c0_0, .slice A0_1 l0_1.length c0_1, .slice A0_2 l0_2.length c0_2] ∧
      W.heap[W0.heap.size + 1]? = some (rec .ready none) ∧ W.heap[W0.heap.size]? = some (.deferred (some [])) ∧ Below w.heap.size w W)
    ?hJa ?hJB ?hJn ?hY _ ?h0).mono ?fin
  case hJa =>
    rintro k W o ⟨j1, j2, j3, j4, j5, j6⟩
    exact ⟨j1.alloc o, j2.alloc o, j3.alloc o, (Below.heap_alloc _ _ _ (Array.getElem?_eq_some_iff.1 j4).1).trans j4, (Below.heap_alloc _ _ _ (Array.getElem?_eq_some_iff.1 j5).1).trans j5, bl_al j6 o⟩
  case hJB => exact fun k W h => h.2.2.2.2.2
  case hJn => exact fun k W h => h.2.2.1
  case h0 =>
    refine ⟨by rw [totN_zero]; exact (k0.alloc _).alloc _, (k1.alloc _).alloc _, (k2.alloc _).alloc _, by rw [← World.size_alloc W0 (.deferred (some []))]; exact World.alloc_heap_new _ _, (Below.heap_alloc _ _ _ (by simp)).trans (World.alloc_heap_new _ _), bl_al (bl_al hB0 _) _⟩
  case hY =>
    rintro k W q hq ⟨j1, j2, j3, j4, j5, j6⟩
    rw [hL] at hq
    have hok := HF.out.2.1 q (by rw [hL]; exact List.mem_of_getElem? hq)
    have hkl : k ≤ 255 := by
      have h1 := (List.getElem?_eq_some_iff.1 hq).1
      rw [← hL, partsL_length] at h1
      have := HF.out.1
      omega
    have hts := totN_succ L k q hq
    have htl := totN_le L (by rw [← hL]; exact HF.out.2.1) k
    have hsl := szAt_le (i := k) hok
    have hsz2 := psize_eq q k hok
    obtain ⟨s1, s2, d⟩ := q
    have hdl := (Array.getElem?_eq_some_iff.1 j4).1
    refine yieldAt_of hrec trivial j4 rfl ?_
    have HR := Lib.hid hrec
    have HQ := Lib.hid hts
    have HP := Lib.hid hsz2
    clear hrec hts hq hsz2 hL
    rw [ksz] at j4 j5 hdl ⊢
    rw [show partV (s1, s2, d) = #[.string s1, .string s2, .int .u32 d] from rfl]
    gi_wp2
    obtain ⟨W1, hW1⟩ : ∃ W1, (W.alloc (.cells #[.string s1, .string s2, .int .u32 d] 67)).putObj (M + 3 + 1) (rec .busy none) = W1 := ⟨_, rfl⟩
    have f1 : Blk W1 W.heap.size 67 #[.string s1, .string s2, .int .u32 d] := by rw [← hW1]; exact (Blk.new W _ _).putObj (by omega) _
    have f2 : Blk W1 M 3 #[.int .i64 (totN L k : Int)] := by rw [← hW1]; exact (j1.alloc _).putObj (by omega) _
    have f3 : Blk W1 (M + 1) 4 #[.bool (decide (k = 0))] := by rw [← hW1]; exact (j2.alloc _).putObj (by omega) _
    have f4 : Blk W1 (M + 1 + 1) 26 #[.slice A0_0 l0_0.length c0_0, .slice A0_1 l0_1.length c0_1, .slice A0_2 l0_2.length c0_2] := by rw [← hW1]; exact (j3.alloc _).putObj (by omega) _
    have f5 : W1.heap[M + 3 + 1]? = some (rec .busy none) := by rw [← hW1]; exact World.putObj_heap_same (by simp; omega)
    have f6 : W1.heap[M + 3]? = some (.deferred (some [])) := by rw [← hW1]; exact (World.putObj_heap_other (by omega)).trans ((Below.heap_alloc _ _ _ (by omega)).trans j5)
    have f7 : Below w.heap.size w W1 := by rw [← hW1]; exact below_putObj (bl_al j6 _) (by omega) _
    rw [hW1]
    refine ⟨(Below.heap_alloc _ _ _ hdl).trans j4, ?_⟩
    have g1 : W1.cell? ⟨W.heap.size, 0, none⟩ = some (.string s1) := f1.cell 0
    have g2 : W1.cell? ⟨W.heap.size, 1, none⟩ = some (.string s2) := f1.cell 1
    have g3 : W1.cell? ⟨W.heap.size, 2, none⟩ = some (.int .u32 d) := f1.cell 2
    have g4 : W1.cell? ⟨M, 0, none⟩ = some (.int .i64 (totN L k : Int)) := f2.cell 0
    have g5 : W1.cell? ⟨M + 1, 0, none⟩ = some (.bool (decide (k = 0))) := f3.cell 0
    have HC1 := Lib.hid (fun W' => node_part_size.calls s1 s2 d (decide (k = 0)) _ W' HP.out)
    have g6 := f2.frozen 0
    have g7 := f3.frozen 0
    have n1 : M < W1.heap.size := f2.lt
    have n2 : M + 1 < W1.heap.size := f3.lt
    have b1 : (szAt k (s1, s2, d) : Int) ≤ 86 := by omega
    have b2 : (totN L k : Int) ≤ 21931 := by omega
    obtain ⟨z, hz⟩ : ∃ z, szAt k (s1, s2, d) = z := ⟨_, rfl⟩
    obtain ⟨y, hy⟩ : ∃ y, totN L k = y := ⟨_, rfl⟩
    have HZ := Lib.hid (And.intro hz hy)
    rw [hz] at HC1 b1
    rw [hy] at g4 b2
    obtain ⟨kb, hkb⟩ : ∃ kb, decide (k = 0) = kb := ⟨_, rfl⟩
    rw [hkb] at HC1 g5
    have F := Lib.hid (And.intro f2 (And.intro f3 (And.intro f4 (And.intro f5 (And.intro f6 (And.intro f7 f1))))))
    have HLT := Lib.hid (And.intro hlt ksz)
    have HW : Hid (IntKind.i64.wrap ((y : Int) + (z : Int)) = ((y + z : Nat) : Int)) := Lib.hid (by rw [IntWalk.i64_in _ (by omega)]; omega)
    clear f1 f2 f3 f4 f5 f6 f7 hW1 j1 j2 j3 j4 j5 j6 hdl htl hsl hok hz hy hkb k0 k1 k2 hB0 hlt ksz hkl
    gi_wp2
    gi_region_with (refine ⟨trivial, ((callsIn_wide.2 (HC1.out _)).inRound _).mono ?_⟩; rintro e w3 ⟨rfl, hb3⟩; have q4 : w3.cell? ⟨M, 0, none⟩ = some (.int .i64 (y : Int)) := (hb3.cell (p := ⟨M, 0, none⟩) n1).trans g4; have q6 : w3.frozen? ⟨M, 0, none⟩ = false := (hb3.frozen (p := ⟨M, 0, none⟩) n1).trans g6; have HB3 := Lib.hid hb3; clear hb3)
    all_goals
      rw [HW.out]
      have n3 : M + 1 < w3.heap.size := by have : W1.heap.size ≤ w3.heap.size := HB3.out.size; omega
      have q5 : w3.cell? ⟨M + 1, 0, none⟩ = some (.bool kb) := (HB3.out.cell (p := ⟨M + 1, 0, none⟩) n2).trans g5
      have q7 : w3.frozen? ⟨M + 1, 0, none⟩ = false := (HB3.out.frozen (p := ⟨M + 1, 0, none⟩) n2).trans g7
      gi_wp2
      obtain ⟨f2, f3, f4, f5, f6, f7, f1⟩ := F.out
      obtain ⟨hlt, ksz⟩ := HLT.out
      have hb3 := HB3.out
      have e2 := (f2.drew.below hb3 f2.lt)
      have e3 := (f3.drew.below hb3 f3.lt)
      have e4 := (f4.drew.below hb3 f4.lt)
      have e5 := (hb3.block _ (Array.getElem?_eq_some_iff.1 f5).1).trans f5
      have e6 := (hb3.block _ (Array.getElem?_eq_some_iff.1 f6).1).trans f6
      have e7 := bl_tr (bl_dr f7) hb3
      have u5 : ((w3.setCell ⟨M, 0, none⟩ (.int .i64 ((y + z : Nat) : Int))).setCell ⟨M + 1, 0, none⟩ (.bool false)).heap[M + 3 + 1]? = some (rec .busy none) :=
        (Below.heap_setCell _ _ _ _ (by dsimp only; omega)).trans ((Below.heap_setCell _ _ _ _ (by dsimp only; omega)).trans e5)
      refine ⟨u5, rfl, ?_, ?_, ?_, World.putObj_heap_same (Array.getElem?_eq_some_iff.1 u5).1, ?_, below_putObj (bl_st (bl_st e7 (by dsimp only; omega) _) (by dsimp only; omega) _) (by omega) _⟩
      · have := ((e2.set_ 0 (.int .i64 ((y + z : Nat) : Int))).far (p := ⟨M + 1, 0, none⟩) (by dsimp only; omega) (.bool false)).putObj (l := M + 3 + 1) (by omega) (rec .ready none)
        rw [HQ.out, HZ.out.1, HZ.out.2]
        exact this
      · exact ((e3.far (p := ⟨M, 0, none⟩) (by dsimp only; omega) _).set_ 0 (.bool false)).putObj (l := M + 3 + 1) (by omega) (rec .ready none)
      · exact ((e4.far (p := ⟨M, 0, none⟩) (by dsimp only; omega) _).far (p := ⟨M + 1, 0, none⟩) (by dsimp only; omega) _).putObj (l := M + 3 + 1) (by omega) (rec .ready none)
      · exact (World.putObj_heap_other (by omega)).trans ((Below.heap_setCell _ _ _ _ (by dsimp only; omega)).trans ((Below.heap_setCell _ _ _ _ (by dsimp only; omega)).trans e6))
  case fin =>
    rintro e W ⟨he, j1, j2, j3, j4, j5, j6⟩
    refine ⟨he, .ready, none, by simp, j4, ?_⟩
    rw [ksz] at j4 j5 ⊢
    have hdl := (Array.getElem?_eq_some_iff.1 j4).1
    obtain ⟨W1, hW1⟩ : ∃ W1, W.putObj (M + 3 + 1) (rec .exhausted none) = W1 := ⟨_, rfl⟩
    rw [← hL, HF.out.2.2] at j1
    have f2 : Blk W1 M 3 #[.int .i64 (sizeN l0_0 l0_1 l0_2 : Int)] := by rw [← hW1]; exact j1.putObj (by omega) _
    have f4 : W1.heap[M + 3]? = some (.deferred (some [])) := by rw [← hW1]; exact (World.putObj_heap_other (by omega)).trans j5
    have f5 : Below w.heap.size w W1 := by rw [← hW1]; exact below_putObj j6 (by omega) _
    dsimp only
    rw [hW1]
    have g3 : W1.cell? ⟨M, 0, none⟩ = some (.int .i64 (sizeN l0_0 l0_1 l0_2 : Int)) := f2.cell 0
    have HK := Lib.hid (And.intro f4 f5)
    clear f2 f4 f5 hW1 j1 j2 j3 j4 j5 j6 hdl hrec k0 k1 k2 hB0 ksz hL he
    gi_wp2
    obtain ⟨f4, f5⟩ := HK.out
    refine ⟨by simp, .inl ⟨_, _, rfl, run_takeDeferred f4, ?_⟩⟩
    exact ⟨_, results_tmp rfl _ _ _, rfl, below_putObj f5 (by omega) _⟩

theorem node_Size.calls (A0_0 : Option Addr) (c0_0 : Nat) (l0_0 : List S39) (A0_1 : Option Addr) (c0_1 : Nat) (l0_1 : List ByteArray) (A0_2 : Option Addr) (c0_2 : Nat) (l0_2 : List Int) (r : Int) (w : World) (hr0_0 : Kd.C k39 w A0_0 l0_0.length l0_0) (hc0_0 : l0_0.length ≤ c0_0) (hr0_1 : Kd.C Kd.string w A0_1 l0_1.length l0_1) (hc0_1 : l0_1.length ≤ c0_1) (hr0_2 : Kd.C (Kd.int .u32) w A0_2 l0_2.length l0_2) (hc0_2 : l0_2.length ≤ c0_2) (h : node_Size.f l0_0 l0_1 l0_2 = some r) :
    Calls Try.prog 16 #[.agg #[.slice A0_0 l0_0.length c0_0, .slice A0_1 l0_1.length c0_1, .slice A0_2 l0_2.length c0_2]] w fun e w' => e = .returned (.int .i64 r) ∧ Below w.heap.size w w' := by
  unfold node_Size.f at h
  by_cases hs : smallB l0_0 l0_1 l0_2 = true
  · rw [if_pos hs] at h
    obtain rfl := Option.some.inj h
    cases hr : rightB l0_0 l0_1 l0_2 with
    | true => exact size_yes A0_0 c0_0 l0_0 A0_1 c0_1 l0_1 A0_2 c0_2 l0_2 w hr0_0 hc0_0 hr0_1 hc0_1 hr0_2 hc0_2 hs hr
    | false => exact size_no A0_0 c0_0 l0_0 A0_1 c0_1 l0_1 A0_2 c0_2 l0_2 w hr0_0 hc0_0 hr0_1 hc0_1 hr0_2 hc0_2 hs hr
  · rw [if_neg hs] at h
    cases h
end Go.Proofs.Ytejempihaknplaa.G
