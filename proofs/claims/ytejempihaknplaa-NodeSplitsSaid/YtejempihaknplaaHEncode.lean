/- Size of package node: how many bytes a node has. Whatever lay lies as it lay. Condition: at most 100000 elements in each list. strings.Builder inside a writer (package node): WriteByte, WriteString, String. Whatever lay lies as it lay, but the writer and rows of bytes of its own. Condition: at most 2^47 bytes. Encode of package node: a node's kind and bytes. Whatever lay lies as it lay. Condition: at most 100000 elements in each list. Decode of package node, of kind 9 and no bytes: an error. Whatever lay lies as it lay. Condition: that kind, no bytes. -/
import Derived.Test.YtejempihaknplaaNdA
import Derived.Test.YtejempihaknplaaNdM
import Derived.Lib.Builder
import Derived.Lib.OthersKept
import Derived.Lib.OwnKind
import Derived.Lib.AppendStr
import Derived.Shelf.Strings.Builder1
import Derived.StillTailTactics
import Derived.Test.YtejempihaknplaaShelf
import Derived.ScopeJumps
namespace Go.Proofs.Ytejempihaknplaa.G
open Go.RowKit Go.Shelf Go.Proofs.YtejempihaknplaaW.PrintWords Go.Proofs.YtejempihaknplaaW.PrintLast Go.Proofs.YtejempihaknplaaW.PrintMore
set_option linter.unusedVariables false
attribute [local go_sem] Oper.semAt_some

/-! ### the sum, part by part -/
def szAt (i : Nat) (q : ByteArray × ByteArray × Int) : Nat := if q.2.2 = 0 then 2 + q.1.size + q.2.1.size else if i = 0 then 4 else 5 + q.1.size
def totN (L : List (ByteArray × ByteArray × Int)) (k : Nat) : Nat := 1 + ((L.zipIdx.take k).map fun x => szAt x.2 x.1).sum
theorem totN_zero (L : List (ByteArray × ByteArray × Int)) : totN L 0 = 1 := by simp [totN]
theorem totN_succ (L : List (ByteArray × ByteArray × Int)) (k : Nat) (q : ByteArray × ByteArray × Int) (h : L[k]? = some q) : totN L (k + 1) = totN L k + szAt k q := by
  have hk := (List.getElem?_eq_some_iff.1 h)
  obtain ⟨hk, rfl⟩ := hk
  unfold totN
  rw [List.take_succ_eq_append_getElem (by simpa using hk)]
  simp
  omega
/-- What is known of each part of a right node. -/
def PartOk (q : ByteArray × ByteArray × Int) : Prop := q.1.size ≤ 24 ∧ q.2.1.size ≤ 60 ∧ 0 ≤ q.2.2
theorem szAt_le {i : Nat} {q : ByteArray × ByteArray × Int} (h : PartOk q) : szAt i q ≤ 86 := by
  unfold szAt
  obtain ⟨h1, h2, _⟩ := h
  split
  · omega
  · split <;> omega
theorem totN_le (L : List (ByteArray × ByteArray × Int)) (h : ∀ q ∈ L, PartOk q) : ∀ k, totN L k ≤ 1 + 86 * k
  | 0 => by rw [totN_zero]; omega
  | k + 1 => by
    have ih := totN_le L h k
    by_cases hk : k < L.length
    · rw [totN_succ L k L[k] (List.getElem?_eq_getElem hk)]
      have := szAt_le (i := k) (h L[k] (List.getElem_mem hk))
      omega
    · have e : totN L (k + 1) = totN L k := by
        unfold totN
        rw [List.take_of_length_le (by simp; omega), List.take_of_length_le (by simp; omega)]
      omega
theorem leaf_facts {ps : List S39} {ks : List ByteArray} {kd : List Int} (h : leafB ps ks kd = true) : ks = [] ∧ kd = [] ∧ ps.length ≤ 255 ∧ (∀ p ∈ ps, pOk p = true) ∧ risesB (ps.map (·.f0)) = true := by
  simp only [leafB, Bool.and_eq_true, List.isEmpty_iff, decide_eq_true_eq, List.all_eq_true] at h
  exact ⟨h.1.1.1.1, h.1.1.1.2, h.1.1.2, h.1.2, h.2⟩
theorem branch_facts {ps : List S39} {ks : List ByteArray} {kd : List Int} (h : branchB ps ks kd = true) : ps = [] ∧ 1 ≤ kd.length ∧ kd.length ≤ 255 ∧ ks.length + 1 = kd.length ∧ (∀ k ∈ kd, kidOk k = true) ∧ (∀ k ∈ ks, kOk k = true) ∧ risesB ks = true := by
  simp only [branchB, Bool.and_eq_true, List.isEmpty_iff, decide_eq_true_eq, List.all_eq_true] at h
  exact ⟨h.1.1.1.1.1.1, h.1.1.1.1.1.2, h.1.1.1.1.2, h.1.1.1.2, h.1.1.2, h.1.2, h.2⟩
theorem right_or {ps : List S39} {ks : List ByteArray} {kd : List Int} (h : rightB ps ks kd = true) : leafB ps ks kd = true ∨ branchB ps ks kd = true := by
  unfold rightB at h
  rwa [Bool.or_eq_true] at h
theorem right_facts {ps : List S39} {ks : List ByteArray} {kd : List Int} (h : rightB ps ks kd = true) : kd.length ≤ ks.length + 1 ∧ ps.length + kd.length ≤ 255 ∧ (∀ q ∈ partsL ps ks kd, PartOk q) ∧ totN (partsL ps ks kd) (ps.length + kd.length) = sizeN ps ks kd := by
  rcases right_or h with h | h
  · obtain ⟨rfl, rfl, h1, h2, _⟩ := leaf_facts h
    refine ⟨by simp, by simpa using h1, ?_, ?_⟩
    · intro q hq
      simp only [partsL, List.zipIdx_nil, List.map_nil, List.append_nil, List.mem_map] at hq
      obtain ⟨p, hp, rfl⟩ := hq
      have := h2 p hp
      simp only [pOk, kOk, Bool.and_eq_true, decide_eq_true_eq] at this
      exact ⟨this.1.2, this.2, Int.le_refl _⟩
    · unfold totN sizeN sumP
      rw [List.take_of_length_le (by simp [partsL])]
      simp only [partsL, List.zipIdx_nil, List.map_nil, List.append_nil, List.isEmpty_nil, if_true]
      congr 1
      congr 1
      apply List.ext_getElem
      · simp
      · intro i h1 h2
        simp [szAt]
  · obtain ⟨rfl, h1, h2, h3, h4, h5, _⟩ := branch_facts h
    refine ⟨by omega, by simpa using h2, ?_, ?_⟩
    · intro q hq
      simp only [partsL, List.map_nil, List.nil_append, List.mem_map] at hq
      obtain ⟨⟨d, i⟩, hd, rfl⟩ := hq
      have hm := List.mem_zipIdx hd
      have he0 : (⟨#[]⟩ : ByteArray).size = 0 := rfl
      refine ⟨?_, ?_, ?_⟩
      · show (partK ks i).size ≤ 24
        unfold partK
        split
        · omega
        · rename_i h0
          rw [List.getD_eq_getElem?_getD]
          rcases Nat.lt_or_ge (i - 1) ks.length with hlt | hge
          · rw [List.getElem?_eq_getElem hlt]
            have := h5 _ (List.getElem_mem hlt)
            simp only [kOk, Bool.and_eq_true, decide_eq_true_eq] at this
            exact this.2
          · rw [List.getElem?_eq_none hge]
            show (⟨#[]⟩ : ByteArray).size ≤ 24
            omega
      · show (⟨#[]⟩ : ByteArray).size ≤ 60
        omega
      · show 0 ≤ d
        have := h4 d (by rw [hm.2.2]; exact List.getElem_mem _)
        simp only [kidOk, Bool.and_eq_true, decide_eq_true_eq] at this
        omega
    · have e : ((partsL [] ks kd).zipIdx.map fun x => szAt x.2 x.1) = 4 :: ks.map fun k => 5 + k.size := by
        apply List.ext_getElem
        · simp [partsL]; omega
        · intro i g1 g2
          have hi : i < kd.length := by simpa [partsL] using g1
          have hkd := h4 kd[i] (List.getElem_mem hi)
          simp only [kidOk, Bool.and_eq_true, decide_eq_true_eq] at hkd
          have hz : ¬ kd[i] = 0 := by omega
          cases i with
          | zero => simp [partsL, szAt, hz]
          | succ i =>
            have hik : i < ks.length := by omega
            simp [partsL, szAt, partK, hz, List.getElem?_eq_getElem hik]
      have hne : kd.isEmpty = false := by
        cases kd with
        | nil => simp at h1
        | cons _ _ => rfl
      unfold totN sizeN sumK
      rw [List.take_of_length_le (by simp [partsL]), e, hne]
      simp only [List.sum_cons, Bool.false_eq_true, if_false]
      omega

set_option maxHeartbeats 400000 in
theorem size_no (A0_0 : Option Addr) (c0_0 : Nat) (l0_0 : List S39) (A0_1 : Option Addr) (c0_1 : Nat) (l0_1 : List ByteArray) (A0_2 : Option Addr) (c0_2 : Nat) (l0_2 : List Int) (w : World) (hr0_0 : Kd.C k39 w A0_0 l0_0.length l0_0) (hc0_0 : l0_0.length ≤ c0_0) (hr0_1 : Kd.C Kd.string w A0_1 l0_1.length l0_1) (hc0_1 : l0_1.length ≤ c0_1) (hr0_2 : Kd.C (Kd.int .u32) w A0_2 l0_2.length l0_2) (hc0_2 : l0_2.length ≤ c0_2)
    (hs : smallB l0_0 l0_1 l0_2 = true) (hr : rightB l0_0 l0_1 l0_2 = false) :
    Calls Try.prog 16 #[.agg #[.slice A0_0 l0_0.length c0_0, .slice A0_1 l0_1.length c0_1, .slice A0_2 l0_2.length c0_2]] w fun e w' => e = .returned (.int .i64 0) ∧ Below w.heap.size w w' := by
  have H := Lib.hid (fun W => fun hb : Below w.heap.size w W => node_Right.calls 400011 A0_0 c0_0 l0_0 A0_1 c0_1 l0_1 A0_2 c0_2 l0_2 _ W (Kd.C_below hr0_0 hb) hc0_0 (Kd.C_below hr0_1 hb) hc0_1 (Kd.C_below hr0_2 hb) hc0_2 (right_eq l0_0 l0_1 l0_2 hs _ (by omega)))
  rw [hr] at H
  have HB := Lib.hid ((Below.refl w.heap.size w).alloc (Nat.le_refl _) (.cells #[.slice A0_0 l0_0.length c0_0, .slice A0_1 l0_1.length c0_1, .slice A0_2 l0_2.length c0_2] 26))
  clear hr0_0 hc0_0 hr0_1 hc0_1 hr0_2 hc0_2 hs hr
  go_enter Try.func16, Try.ntmps16
  go_wp2_with fail
  refine (H.out _ HB.out).mono ?_
  rintro e w1 ⟨rfl, hb1⟩
  go_wp2
  go_ret
  exact ⟨rfl, bl_tr HB.out hb1⟩

theorem psize_eq (q : ByteArray × ByteArray × Int) (i : Nat) (h : PartOk q) : node_part_size.f q.1 q.2.1 q.2.2 (decide (i = 0)) = some (szAt i q : Int) := by
  obtain ⟨h1, h2, _⟩ := h
  unfold node_part_size.f szAt
  split
  · congr 1
    unfold wrap64
    omega
  · by_cases h0 : i = 0
    · simp [h0]
    · simp only [h0, decide_false, Bool.false_eq_true, if_false]
      congr 1
      unfold wrap64
      omega

set_option maxRecDepth 100000 in
set_option maxHeartbeats 4000000 in
theorem size_yes (A0_0 : Option Addr) (c0_0 : Nat) (l0_0 : List S39) (A0_1 : Option Addr) (c0_1 : Nat) (l0_1 : List ByteArray) (A0_2 : Option Addr) (c0_2 : Nat) (l0_2 : List Int) (w : World) (hr0_0 : Kd.C k39 w A0_0 l0_0.length l0_0) (hc0_0 : l0_0.length ≤ c0_0) (hr0_1 : Kd.C Kd.string w A0_1 l0_1.length l0_1) (hc0_1 : l0_1.length ≤ c0_1) (hr0_2 : Kd.C (Kd.int .u32) w A0_2 l0_2.length l0_2) (hc0_2 : l0_2.length ≤ c0_2)
    (hs : smallB l0_0 l0_1 l0_2 = true) (hr : rightB l0_0 l0_1 l0_2 = true) :
    Calls Try.prog 16 #[.agg #[.slice A0_0 l0_0.length c0_0, .slice A0_1 l0_1.length c0_1, .slice A0_2 l0_2.length c0_2]] w fun e w' => e = .returned (.int .i64 (sizeN l0_0 l0_1 l0_2 : Int)) ∧ Below w.heap.size w w' := by
  obtain ⟨f1, f2, f3, f4⟩ := right_facts hr
  have H := Lib.hid (fun W => fun hb : Below w.heap.size w W => node_Right.calls 400011 A0_0 c0_0 l0_0 A0_1 c0_1 l0_1 A0_2 c0_2 l0_2 _ W (Kd.C_below hr0_0 hb) hc0_0 (Kd.C_below hr0_1 hb) hc0_1 (Kd.C_below hr0_2 hb) hc0_2 (right_eq l0_0 l0_1 l0_2 hs _ (by omega)))
  rw [hr] at H
  have HB := Lib.hid ((Below.refl w.heap.size w).alloc (Nat.le_refl _) (.cells #[.slice A0_0 l0_0.length c0_0, .slice A0_1 l0_1.length c0_1, .slice A0_2 l0_2.length c0_2] 26))
  have HC := Lib.hid (And.intro hr0_0 (And.intro hr0_1 (And.intro hr0_2 f1)))
  have HF := Lib.hid (And.intro f2 (And.intro f3 f4))
  have hbx := (Blk.new w 26 #[.slice A0_0 l0_0.length c0_0, .slice A0_1 l0_1.length c0_1, .slice A0_2 l0_2.length c0_2])
  have HX := Lib.hid hbx
  clear hr0_0 hc0_0 hr0_1 hc0_1 hr0_2 hc0_2 hs hr f1 f2 f3 f4 hbx
  refine (callsIn_wide (n := 9)).1 (callsIn_of_wp_marks Try.func16 rfl trivial ?_ rfl)
  simp only [Try.ntmps16, List.size_toArray, List.length_cons, List.length_nil, Nat.reduceAdd, Nat.reduceSub, Array.replicate_succ, Array.replicate_zero, List.push_toArray, List.append_toArray, List.nil_append, List.cons_append]
  gi_wp2_with fail
  refine ⟨trivial, ?_⟩
  refine (callsIn_wide.2 (H.out _ HB.out)).mono ?_
  rintro e w1 ⟨rfl, hb1⟩
  have hx1 := HX.out.below hb1 (by simp)
  have c0 : w1.cell? ⟨w.heap.size, 0, none⟩ = some (.slice A0_0 l0_0.length c0_0) := hx1.cell 0
  have c1 : w1.cell? ⟨w.heap.size, 1, none⟩ = some (.slice A0_1 l0_1.length c0_1) := hx1.cell 1
  have c2 : w1.cell? ⟨w.heap.size, 2, none⟩ = some (.slice A0_2 l0_2.length c0_2) := hx1.cell 2
  have hlt : w.heap.size < w1.heap.size := by have := hb1.size; simp at this; omega
  have hlt2 : w.heap.size < w1.heap.size + 1 := by omega
  have HB1 := Lib.hid (bl_tr HB.out hb1)
  clear hx1 hb1
  gi_wp2_with fail
  refine ⟨trivial, ?_⟩
  refine (callsIn_wide.2 (parts_any _ _ _ _ _ _ _ _ _ _)).mono ?_
  rintro e w2 ⟨rfl, rfl⟩
  gi_wp2_with fail
  have hB0 : Below w.heap.size w (((w1.alloc (.cells #[.int .i64 1] 3)).alloc (.cells #[.bool true] 4)).alloc (.cells #[.slice A0_0 l0_0.length c0_0, .slice A0_1 l0_1.length c0_1, .slice A0_2 l0_2.length c0_2] 26)) := bl_al (bl_al (bl_al HB1.out _) _) _
  have k0 : Blk (((w1.alloc (.cells #[.int .i64 1] 3)).alloc (.cells #[.bool true] 4)).alloc (.cells #[.slice A0_0 l0_0.length c0_0, .slice A0_1 l0_1.length c0_1, .slice A0_2 l0_2.length c0_2] 26)) w1.heap.size 3 #[.int .i64 1] := ((Blk.new w1 _ _).alloc _).alloc _
  have k1 : Blk (((w1.alloc (.cells #[.int .i64 1] 3)).alloc (.cells #[.bool true] 4)).alloc (.cells #[.slice A0_0 l0_0.length c0_0, .slice A0_1 l0_1.length c0_1, .slice A0_2 l0_2.length c0_2] 26)) (w1.heap.size + 1) 4 #[.bool true] := by
    have := (Blk.new (w1.alloc (.cells #[.int .i64 1] 3)) 4 #[.bool true]).alloc (.cells #[.slice A0_0 l0_0.length c0_0, .slice A0_1 l0_1.length c0_1, .slice A0_2 l0_2.length c0_2] 26)
    rw [World.size_alloc] at this
    exact this
  have k2 : Blk (((w1.alloc (.cells #[.int .i64 1] 3)).alloc (.cells #[.bool true] 4)).alloc (.cells #[.slice A0_0 l0_0.length c0_0, .slice A0_1 l0_1.length c0_1, .slice A0_2 l0_2.length c0_2] 26)) (w1.heap.size + 1 + 1) 26 #[.slice A0_0 l0_0.length c0_0, .slice A0_1 l0_1.length c0_1, .slice A0_2 l0_2.length c0_2] := by
    have := Blk.new ((w1.alloc (.cells #[.int .i64 1] 3)).alloc (.cells #[.bool true] 4)) 26 #[.slice A0_0 l0_0.length c0_0, .slice A0_1 l0_1.length c0_1, .slice A0_2 l0_2.length c0_2]
    rw [World.size_alloc, World.size_alloc] at this
    exact this
  have ksz : (((w1.alloc (.cells #[.int .i64 1] 3)).alloc (.cells #[.bool true] 4)).alloc (.cells #[.slice A0_0 l0_0.length c0_0, .slice A0_1 l0_1.length c0_1, .slice A0_2 l0_2.length c0_2] 26)).heap.size = w1.heap.size + 3 := by simp
  generalize (((w1.alloc (.cells #[.int .i64 1] 3)).alloc (.cells #[.bool true] 4)).alloc (.cells #[.slice A0_0 l0_0.length c0_0, .slice A0_1 l0_1.length c0_1, .slice A0_2 l0_2.length c0_2] 26)) = W0 at *
  clear c0 c1 c2 HB1 hlt2 H HB HX
  generalize w1.heap.size = M at *
  clear w1
  refine wpIn_rf rfl (fun h => by cases h) (gf := 60) (lb := #[.pointer (some ⟨M + 1 + 1, 0, none⟩)]) rfl trivial (enters_of Try.func60 (by kernel_rfl) rfl) ?_
  intro fn rec _ hrec
  obtain ⟨L, hL⟩ : ∃ L, partsL l0_0 l0_1 l0_2 = L := ⟨_, rfl⟩
  refine (parts1_in (9 - 1) (W0.heap.size + 1) (M + 1 + 1) A0_0 c0_0 l0_0 A0_1 c0_1 l0_1 A0_2 c0_2 l0_2 w HC.out.1 HC.out.2.1 HC.out.2.2.1 HC.out.2.2.2
    (fun k W => Blk W M 3 #[.int .i64 (totN L k : Int)] ∧ Blk W (M + 1) 4 #[.bool (decide (k = 0))] ∧ Blk W (M + 1 + 1) 26 #[.slice A0_0 l0_0.length c0_0, .slice A0_1 l0_1.length c0_1, .slice A0_2 l0_2.length c0_2] ∧
      W.heap[W0.heap.size + 1]? = some (rec .ready none) ∧ W.heap[W0.heap.size]? = some (.deferred (some [])) ∧ Below w.heap.size w W)
    ?hJa ?hJB ?hJn ?hY _ ?h0).mono ?fin
  case hJa =>
    rintro k W o ⟨j1, j2, j3, j4, j5, j6⟩
    exact ⟨j1.alloc o, j2.alloc o, j3.alloc o, (Below.heap_alloc _ _ _ (Array.getElem?_eq_some_iff.1 j4).1).trans j4, (Below.heap_alloc _ _ _ (Array.getElem?_eq_some_iff.1 j5).1).trans j5, bl_al j6 o⟩
  case hJB => exact fun k W h => h.2.2.2.2.2
  case hJn => exact fun k W h => h.2.2.1
  case h0 =>
    refine ⟨by rw [totN_zero]; exact (k0.alloc _).alloc _, (k1.alloc _).alloc _, (k2.alloc _).alloc _, by rw [← World.size_alloc W0 (.deferred (some []))]; exact World.alloc_heap_new _ _, (Below.heap_alloc _ _ _ (by simp)).trans (World.alloc_heap_new _ _), bl_al (bl_al hB0 _) _⟩
  case hY =>
    rintro k W q hq ⟨j1, j2, j3, j4, j5, j6⟩
    rw [hL] at hq
    have hok := HF.out.2.1 q (by rw [hL]; exact List.mem_of_getElem? hq)
    have hkl : k ≤ 255 := by
      have h1 := (List.getElem?_eq_some_iff.1 hq).1
      rw [← hL, partsL_length] at h1
      have := HF.out.1
      omega
    have hts := totN_succ L k q hq
    have htl := totN_le L (by rw [← hL]; exact HF.out.2.1) k
    have hsl := szAt_le (i := k) hok
    have hsz2 := psize_eq q k hok
    obtain ⟨s1, s2, d⟩ := q
    have hdl := (Array.getElem?_eq_some_iff.1 j4).1
    refine yieldAt_of hrec trivial j4 rfl ?_
    have HR := Lib.hid hrec
    have HQ := Lib.hid hts
    have HP := Lib.hid hsz2
    clear hrec hts hq hsz2 hL
    rw [ksz] at j4 j5 hdl ⊢
    rw [show partV (s1, s2, d) = #[.string s1, .string s2, .int .u32 d] from rfl]
    gi_wp2
    obtain ⟨W1, hW1⟩ : ∃ W1, (W.alloc (.cells #[.string s1, .string s2, .int .u32 d] 67)).putObj (M + 3 + 1) (rec .busy none) = W1 := ⟨_, rfl⟩
    have f1 : Blk W1 W.heap.size 67 #[.string s1, .string s2, .int .u32 d] := by rw [← hW1]; exact (Blk.new W _ _).putObj (by omega) _
    have f2 : Blk W1 M 3 #[.int .i64 (totN L k : Int)] := by rw [← hW1]; exact (j1.alloc _).putObj (by omega) _
    have f3 : Blk W1 (M + 1) 4 #[.bool (decide (k = 0))] := by rw [← hW1]; exact (j2.alloc _).putObj (by omega) _
    have f4 : Blk W1 (M + 1 + 1) 26 #[.slice A0_0 l0_0.length c0_0, .slice A0_1 l0_1.length c0_1, .slice A0_2 l0_2.length c0_2] := by rw [← hW1]; exact (j3.alloc _).putObj (by omega) _
    have f5 : W1.heap[M + 3 + 1]? = some (rec .busy none) := by rw [← hW1]; exact World.putObj_heap_same (by simp; omega)
    have f6 : W1.heap[M + 3]? = some (.deferred (some [])) := by rw [← hW1]; exact (World.putObj_heap_other (by omega)).trans ((Below.heap_alloc _ _ _ (by omega)).trans j5)
    have f7 : Below w.heap.size w W1 := by rw [← hW1]; exact below_putObj (bl_al j6 _) (by omega) _
    rw [hW1]
    refine ⟨(Below.heap_alloc _ _ _ hdl).trans j4, ?_⟩
    have g1 : W1.cell? ⟨W.heap.size, 0, none⟩ = some (.string s1) := f1.cell 0
    have g2 : W1.cell? ⟨W.heap.size, 1, none⟩ = some (.string s2) := f1.cell 1
    have g3 : W1.cell? ⟨W.heap.size, 2, none⟩ = some (.int .u32 d) := f1.cell 2
    have g4 : W1.cell? ⟨M, 0, none⟩ = some (.int .i64 (totN L k : Int)) := f2.cell 0
    have g5 : W1.cell? ⟨M + 1, 0, none⟩ = some (.bool (decide (k = 0))) := f3.cell 0
    have HC1 := Lib.hid (fun W' => node_part_size.calls s1 s2 d (decide (k = 0)) _ W' HP.out)
    have g6 := f2.frozen 0
    have g7 := f3.frozen 0
    have n1 : M < W1.heap.size := f2.lt
    have n2 : M + 1 < W1.heap.size := f3.lt
    have b1 : (szAt k (s1, s2, d) : Int) ≤ 86 := by omega
    have b2 : (totN L k : Int) ≤ 21931 := by omega
    obtain ⟨z, hz⟩ : ∃ z, szAt k (s1, s2, d) = z := ⟨_, rfl⟩
    obtain ⟨y, hy⟩ : ∃ y, totN L k = y := ⟨_, rfl⟩
    have HZ := Lib.hid (And.intro hz hy)
    rw [hz] at HC1 b1
    rw [hy] at g4 b2
    obtain ⟨kb, hkb⟩ : ∃ kb, decide (k = 0) = kb := ⟨_, rfl⟩
    rw [hkb] at HC1 g5
    have F := Lib.hid (And.intro f2 (And.intro f3 (And.intro f4 (And.intro f5 (And.intro f6 (And.intro f7 f1))))))
    have HLT := Lib.hid (And.intro hlt ksz)
    have HW : Hid (IntKind.i64.wrap ((y : Int) + (z : Int)) = ((y + z : Nat) : Int)) := Lib.hid (by rw [IntWalk.i64_in _ (by omega)]; omega)
    clear f1 f2 f3 f4 f5 f6 f7 hW1 j1 j2 j3 j4 j5 j6 hdl htl hsl hok hz hy hkb k0 k1 k2 hB0 hlt ksz hkl
    gi_wp2
    gi_region_with (refine ⟨trivial, ((callsIn_wide.2 (HC1.out _)).inRound _).mono ?_⟩; rintro e w3 ⟨rfl, hb3⟩; have q4 : w3.cell? ⟨M, 0, none⟩ = some (.int .i64 (y : Int)) := (hb3.cell (p := ⟨M, 0, none⟩) n1).trans g4; have q6 : w3.frozen? ⟨M, 0, none⟩ = false := (hb3.frozen (p := ⟨M, 0, none⟩) n1).trans g6; have HB3 := Lib.hid hb3; clear hb3)
    all_goals
      rw [HW.out]
      have n3 : M + 1 < w3.heap.size := by have : W1.heap.size ≤ w3.heap.size := HB3.out.size; omega
      have q5 : w3.cell? ⟨M + 1, 0, none⟩ = some (.bool kb) := (HB3.out.cell (p := ⟨M + 1, 0, none⟩) n2).trans g5
      have q7 : w3.frozen? ⟨M + 1, 0, none⟩ = false := (HB3.out.frozen (p := ⟨M + 1, 0, none⟩) n2).trans g7
      gi_wp2
      obtain ⟨f2, f3, f4, f5, f6, f7, f1⟩ := F.out
      obtain ⟨hlt, ksz⟩ := HLT.out
      have hb3 := HB3.out
      have e2 := (f2.drew.below hb3 f2.lt)
      have e3 := (f3.drew.below hb3 f3.lt)
      have e4 := (f4.drew.below hb3 f4.lt)
      have e5 := (hb3.block _ (Array.getElem?_eq_some_iff.1 f5).1).trans f5
      have e6 := (hb3.block _ (Array.getElem?_eq_some_iff.1 f6).1).trans f6
      have e7 := bl_tr (bl_dr f7) hb3
      have u5 : ((w3.setCell ⟨M, 0, none⟩ (.int .i64 ((y + z : Nat) : Int))).setCell ⟨M + 1, 0, none⟩ (.bool false)).heap[M + 3 + 1]? = some (rec .busy none) :=
        (Below.heap_setCell _ _ _ _ (by dsimp only; omega)).trans ((Below.heap_setCell _ _ _ _ (by dsimp only; omega)).trans e5)
      refine ⟨u5, rfl, ?_, ?_, ?_, World.putObj_heap_same (Array.getElem?_eq_some_iff.1 u5).1, ?_, below_putObj (bl_st (bl_st e7 (by dsimp only; omega) _) (by dsimp only; omega) _) (by omega) _⟩
      · have := ((e2.set_ 0 (.int .i64 ((y + z : Nat) : Int))).far (p := ⟨M + 1, 0, none⟩) (by dsimp only; omega) (.bool false)).putObj (l := M + 3 + 1) (by omega) (rec .ready none)
        rw [HQ.out, HZ.out.1, HZ.out.2]
        exact this
      · exact ((e3.far (p := ⟨M, 0, none⟩) (by dsimp only; omega) _).set_ 0 (.bool false)).putObj (l := M + 3 + 1) (by omega) (rec .ready none)
      · exact ((e4.far (p := ⟨M, 0, none⟩) (by dsimp only; omega) _).far (p := ⟨M + 1, 0, none⟩) (by dsimp only; omega) _).putObj (l := M + 3 + 1) (by omega) (rec .ready none)
      · exact (World.putObj_heap_other (by omega)).trans ((Below.heap_setCell _ _ _ _ (by dsimp only; omega)).trans ((Below.heap_setCell _ _ _ _ (by dsimp only; omega)).trans e6))
  case fin =>
    rintro e W ⟨he, j1, j2, j3, j4, j5, j6⟩
    refine ⟨he, .ready, none, by simp, j4, ?_⟩
    rw [ksz] at j4 j5 ⊢
    have hdl := (Array.getElem?_eq_some_iff.1 j4).1
    obtain ⟨W1, hW1⟩ : ∃ W1, W.putObj (M + 3 + 1) (rec .exhausted none) = W1 := ⟨_, rfl⟩
    rw [← hL, HF.out.2.2] at j1
    have f2 : Blk W1 M 3 #[.int .i64 (sizeN l0_0 l0_1 l0_2 : Int)] := by rw [← hW1]; exact j1.putObj (by omega) _
    have f4 : W1.heap[M + 3]? = some (.deferred (some [])) := by rw [← hW1]; exact (World.putObj_heap_other (by omega)).trans j5
    have f5 : Below w.heap.size w W1 := by rw [← hW1]; exact below_putObj j6 (by omega) _
    dsimp only
    rw [hW1]
    have g3 : W1.cell? ⟨M, 0, none⟩ = some (.int .i64 (sizeN l0_0 l0_1 l0_2 : Int)) := f2.cell 0
    have HK := Lib.hid (And.intro f4 f5)
    clear f2 f4 f5 hW1 j1 j2 j3 j4 j5 j6 hdl hrec k0 k1 k2 hB0 ksz hL he
    gi_wp2
    obtain ⟨f4, f5⟩ := HK.out
    refine ⟨by simp, .inl ⟨_, _, rfl, run_takeDeferred f4, ?_⟩⟩
    exact ⟨_, results_tmp rfl _ _ _, rfl, below_putObj f5 (by omega) _⟩

theorem node_Size.calls (A0_0 : Option Addr) (c0_0 : Nat) (l0_0 : List S39) (A0_1 : Option Addr) (c0_1 : Nat) (l0_1 : List ByteArray) (A0_2 : Option Addr) (c0_2 : Nat) (l0_2 : List Int) (r : Int) (w : World) (hr0_0 : Kd.C k39 w A0_0 l0_0.length l0_0) (hc0_0 : l0_0.length ≤ c0_0) (hr0_1 : Kd.C Kd.string w A0_1 l0_1.length l0_1) (hc0_1 : l0_1.length ≤ c0_1) (hr0_2 : Kd.C (Kd.int .u32) w A0_2 l0_2.length l0_2) (hc0_2 : l0_2.length ≤ c0_2) (h : node_Size.f l0_0 l0_1 l0_2 = some r) :
    Calls Try.prog 16 #[.agg #[.slice A0_0 l0_0.length c0_0, .slice A0_1 l0_1.length c0_1, .slice A0_2 l0_2.length c0_2]] w fun e w' => e = .returned (.int .i64 r) ∧ Below w.heap.size w w' := by
  unfold node_Size.f at h
  by_cases hs : smallB l0_0 l0_1 l0_2 = true
  · rw [if_pos hs] at h
    obtain rfl := Option.some.inj h
    cases hr : rightB l0_0 l0_1 l0_2 with
    | true => exact size_yes A0_0 c0_0 l0_0 A0_1 c0_1 l0_1 A0_2 c0_2 l0_2 w hr0_0 hc0_0 hr0_1 hc0_1 hr0_2 hc0_2 hs hr
    | false => exact size_no A0_0 c0_0 l0_0 A0_1 c0_1 l0_1 A0_2 c0_2 l0_2 w hr0_0 hc0_0 hr0_1 hc0_1 hr0_2 hc0_2 hs hr
  · rw [if_neg hs] at h
    cases h
end Go.Proofs.Ytejempihaknplaa.G

namespace Go.Proofs.Ytejempihaknplaa.G
open Go.RowKit Go.Shelf
set_option linter.unusedVariables false

/-- A writer that lies in block b (made from B on) and holds these bytes. -/
def Wr (B b : Nat) (l : List UInt8) (w : World) : Prop := Lib.IsBuilder 58 5 B b (Lib.byteCells l) w
theorem info_b : (Try.prog.info? 56).map (·.size) = some 2 := by kernel_rfl
theorem info_u8 : (Try.prog.info? 5).map (fun i => (i.zero, i.size, i.bytes)) = some (some (.int .u8 0), 1, 1) := by kernel_rfl
theorem cells_u8 : Try.prog.cellsOf 5 = 1 := by kernel_rfl
theorem lies_b : liesAt Try.prog Try.prog.depth 58 (2 / Try.prog.cellsOf 58) 0 56 1 = true := by kernel_rfl
theorem bcells_snoc (l : List UInt8) (c : UInt8) : Lib.byteCells (l ++ [c]) = Lib.byteCells l ++ [.int .u8 (c.toNat : Int)] := by simp [Lib.byteCells]
theorem bcells_app (l m : List UInt8) : Lib.byteCells (l ++ m) = Lib.byteCells l ++ Lib.byteCells m := by simp [Lib.byteCells]
theorem bcells_str (s : ByteArray) : Lib.strCells s = Lib.byteCells s.data.toList := by simp [Lib.byteCells, Lib.strCells]

set_option maxRecDepth 100000 in
set_option maxHeartbeats 1000000 in
theorem check_used (b : Nat) (w : World) (h0 : w.cell? ⟨b, 0, none⟩ = some (.pointer (some ⟨b, 0, none⟩))) :
    Calls Try.prog 59 #[.pointer (some ⟨b, 0, none⟩)] w fun e w' => e = .returned (.tuple #[]) ∧ w' = w := by
  obtain ⟨j, hj, _⟩ := Option.map_eq_some_iff.1 info_b
  go_enter Try.func59, Try.ntmps59
  go_wp2
  rw [Lib.run_neq_ptr_same w _ Try.underlying53 hj]
  go_wp2
  go_end0
  exact ⟨rfl, rfl⟩
set_option maxRecDepth 100000 in
set_option maxHeartbeats 1000000 in
theorem check_fresh (b : Nat) (w : World) (h0 : w.cell? ⟨b, 0, none⟩ = some (.pointer none)) (hsh : w.shape? b = some (58, 2)) (hfz : w.frozen? ⟨b, 0, none⟩ = false) :
    Calls Try.prog 59 #[.pointer (some ⟨b, 0, none⟩)] w fun e w' => e = .returned (.tuple #[]) ∧ w' = w.setCell ⟨b, 0, none⟩ (.pointer (some ⟨b, 0, none⟩)) := by
  obtain ⟨j, hj, hjs⟩ := Option.map_eq_some_iff.1 info_b
  go_enter Try.func59, Try.ntmps59
  go_wp2
  rw [Lib.run_to_unsafe w ⟨b, 0, none⟩ Try.underlying53 Try.underlying118 hj (by rw [hjs]; decide) hsh (Nat.zero_lt_succ 1)]
  simp only [Result.andThen]
  rw [Oper.upon_value]
  go_wp2
  rw [run_callFunc_extern Try.func76 (by kernel_rfl) (by kernel_rfl) (by kernel_rfl) (e := Extern.AbiNoEscape.same) (by kernel_rfl)]
  rw [Lib.run_noEscape]
  simp only [Result.andThen]
  rw [Oper.upon_value]
  go_wp2
  rw [Lib.run_from_unsafe w ⟨b, 0, none⟩ Try.underlying118 Try.underlying53 hj hsh lies_b]
  simp only [Result.andThen]
  rw [Oper.upon_value]
  go_wp2
  go_end0
  exact ⟨rfl, rfl⟩
theorem check_any (B b : Nat) (bs : List Value) (w : World) (h : Lib.IsBuilder 58 5 B b bs w) :
    Calls Try.prog 59 #[.pointer (some ⟨b, 0, none⟩)] w fun e w' => e = .returned (.tuple #[]) ∧ Lib.BuilderAt 58 5 B b (.pointer (some ⟨b, 0, none⟩)) bs w' ∧ Below B w w' ∧ Lib.OthersKept 5 (some b) w w' := by
  rcases h with h | h
  · refine (check_fresh b w h.cell0 h.shape h.frozen0).mono ?_
    rintro e w' ⟨rfl, rfl⟩
    exact ⟨rfl, h.used _, (Below.refl B w).setCell (p := ⟨b, 0, none⟩) h.1 _, (Lib.OthersKept.refl _ _ w).setCell ⟨b, 0, none⟩ rfl _⟩
  · refine (check_used b w h.cell0).mono ?_
    rintro e w' ⟨rfl, rfl⟩
    exact ⟨rfl, h, Below.refl B _, Lib.OthersKept.refl _ _ _⟩

theorem own_kind {w : World} {B : Nat} {e : TypeId} {v : Value} {n : Nat} {xs : List Value} (hown : w.ownsRow B e 1 v n xs) (g : Nat) (hg : v.ownBlock = some g) : ∃ c fz, w.heap[g]? = some (.cells c e fz) := by
  rcases hown.2 with ⟨rfl, _⟩ | ⟨g', cap, cur, rfl, _, hh, _⟩
  · simp [Value.ownBlock] at hg
  · simp only [Value.ownBlock, Option.some.injEq] at hg
    subst hg
    exact ⟨cur, _, hh⟩

set_option maxHeartbeats 2000000 in
theorem wbyte_any (B b : Nat) (l : List UInt8) (c : UInt8) (w : World) (h : Wr B b l w) (hlen : l.length + 1 ≤ 140737488355328) (hBw : B ≤ w.heap.size) :
    Calls Try.prog 32 #[.pointer (some ⟨b, 0, none⟩), .int .u8 (c.toNat : Int)] w fun e w' => e = .returned .nilIface ∧ Wr B b (l ++ [c]) w' ∧ Below B w w' ∧ Lib.OthersKept 5 (some b) w w' := by
  obtain ⟨i0, hi, hz0, hz1, hz2⟩ := info_parts info_u8
  unfold Wr
  rw [bcells_snoc]
  obtain ⟨c, hc⟩ : ∃ c' : Int, (c.toNat : Int) = c' := ⟨_, rfl⟩
  rw [hc]
  have hlen' : (Lib.byteCells l).length + 1 ≤ 140737488355328 := by rw [Lib.byteCells_length]; exact hlen
  have HC := Lib.hid (check_any B b _ w h)
  generalize Lib.byteCells l = bs at *
  clear hc hlen h
  go_enter Try.func32, Try.ntmps32
  go_wp2_with fail
  refine HC.out.mono ?_
  rintro e w1 ⟨rfl, h1, hb1, hk1⟩
  obtain ⟨hB, v, hbk, hown, hne⟩ := h1
  have c0 : w1.cell? ⟨b, 0, none⟩ = some (.pointer (some ⟨b, 0, none⟩)) := by rw [Lib.cell_of_heap hbk]; rfl
  have c1 : w1.cell? ⟨b, 1, none⟩ = some v := by rw [Lib.cell_of_heap hbk]; rfl
  go_wp2_with (at_builtin; refine wpList_append_own _ rfl _ _ 54 rfl B 5 i0 (.int .u8 0) 1 1 Try.underlying54 hi hz0 hz1 hz2 rfl (by decide) _ _ _ rfl (hown.alloc _) ⟨w1.heap.size, 0, none⟩ 1 1 [.int .u8 c] rfl rfl ?c1 ?c2 ?c3 ?c4 ?c5 ?_)
  case c1 =>
    intro j u hj
    match j, hj with
    | 0, hj => simp at hj; subst hj; simp [Addr.add]
  case c2 => intro u hu; simp at hu; subst hu; rfl
  case c3 => unfold maxLen; omega
  case c4 => omega
  case c5 => have := hb1.size; simp; omega
  intro v' w2 hown' hgrow _
  have hlt : b < w1.heap.size := by
    rcases Nat.lt_or_ge b w1.heap.size with h' | h'
    · exact h'
    · simp [Array.getElem?_eq_none h'] at hbk
  have hb2 : w2.heap[b]? = some (.cells #[.pointer (some ⟨b, 0, none⟩), v] 58 (0, 0)) := by
    rw [hgrow.block b (by simp; omega) (fun e => hne e.symm), Lib.alloc_old w1 _ b hlt]
    exact hbk
  have d0 : w2.cell? ⟨b, 0, none⟩ = some (.pointer (some ⟨b, 0, none⟩)) := by rw [Lib.cell_of_heap hb2]; rfl
  have d1 : w2.cell? ⟨b, 1, none⟩ = some v := by rw [Lib.cell_of_heap hb2]; rfl
  have f1 : w2.frozen? ⟨b, 1, none⟩ = false := Lib.frozen_of_heap hb2 1
  obtain ⟨g, cap, rfl⟩ : ∃ g cap, v' = .slice (some ⟨g, 0, none⟩) (bs.length + 1) cap := by
    rcases hown'.2 with ⟨_, h0⟩ | ⟨g, cap, cur, hv, _⟩
    · omega
    · exact ⟨g, cap, hv⟩
  go_wp2
  go_ret
  refine ⟨rfl, .inr ?_, ?_, ((hk1.alloc _).grown hgrow (own_kind (hown.alloc _))).setCell ⟨b, 1, none⟩ rfl _⟩
  · exact Lib.BuilderAt.put (T := 58) (e := 5) hB hb2 (bs' := bs ++ [.int .u8 c]) (by simpa using hown') (by decide)
  · exact ((hb1.alloc (by have := hb1.size; omega) _).grown hgrow (by have := hb1.size; simp; omega) (fun k hk => (hown.lt k hk).1)).setCell (p := ⟨b, 1, none⟩) hB _

set_option maxHeartbeats 2000000 in
theorem wstr_any (B b : Nat) (l : List UInt8) (s : ByteArray) (w : World) (h : Wr B b l w) (hlen : l.length + s.size ≤ 140737488355328) (hBw : B ≤ w.heap.size) :
    Calls Try.prog 61 #[.pointer (some ⟨b, 0, none⟩), .string s] w fun e w' => e = .returned (.tuple #[.int .i64 s.size, .nilIface]) ∧ Wr B b (l ++ s.data.toList) w' ∧ Below B w w' ∧ Lib.OthersKept 5 (some b) w w' := by
  obtain ⟨i0, hi, hz0, hz1, hz2⟩ := info_parts info_u8
  unfold Wr
  rw [bcells_app, ← bcells_str]
  have hlen' : (Lib.byteCells l).length + s.size ≤ 140737488355328 := by rw [Lib.byteCells_length]; exact hlen
  have HC := Lib.hid (check_any B b _ w h)
  generalize Lib.byteCells l = bs at *
  clear hlen h
  go_enter Try.func61, Try.ntmps61
  go_wp2_with fail
  refine HC.out.mono ?_
  rintro e w1 ⟨rfl, h1, hb1, hk1⟩
  obtain ⟨hB, v, hbk, hown, hne⟩ := h1
  have c0 : w1.cell? ⟨b, 0, none⟩ = some (.pointer (some ⟨b, 0, none⟩)) := by rw [Lib.cell_of_heap hbk]; rfl
  have c1 : w1.cell? ⟨b, 1, none⟩ = some v := by rw [Lib.cell_of_heap hbk]; rfl
  go_wp2_with (at_builtin; refine Lib.wpList_append_own_string _ rfl _ _ 54 9 rfl B 5 i0 Try.underlying54 Try.underlying9 hi hz0 hz1 hz2 _ _ _ rfl hown s rfl ?c3 ?c4 ?c5 ?_)
  case c3 => unfold maxLen; omega
  case c4 => omega
  case c5 => have := hb1.size; omega
  intro v' w2 hown' hgrow _
  have hlt : b < w1.heap.size := by
    rcases Nat.lt_or_ge b w1.heap.size with h' | h'
    · exact h'
    · simp [Array.getElem?_eq_none h'] at hbk
  have hb2 : w2.heap[b]? = some (.cells #[.pointer (some ⟨b, 0, none⟩), v] 58 (0, 0)) := by
    rw [hgrow.block b hlt (fun e => hne e.symm)]
    exact hbk
  have d0 : w2.cell? ⟨b, 0, none⟩ = some (.pointer (some ⟨b, 0, none⟩)) := by rw [Lib.cell_of_heap hb2]; rfl
  have d1 : w2.cell? ⟨b, 1, none⟩ = some v := by rw [Lib.cell_of_heap hb2]; rfl
  have f1 : w2.frozen? ⟨b, 1, none⟩ = false := Lib.frozen_of_heap hb2 1
  obtain ⟨ao, n', cap, rfl⟩ : ∃ ao n' cap, v' = .slice ao n' cap := by
    rcases hown'.2 with ⟨hv, _⟩ | ⟨g, cap, cur, hv, _⟩
    · exact ⟨_, _, _, hv⟩
    · exact ⟨_, _, _, hv⟩
  go_wp2
  go_ret2
  refine ⟨rfl, .inr ?_, ?_, (hk1.grown hgrow (own_kind hown)).setCell ⟨b, 1, none⟩ rfl _⟩
  · exact Lib.BuilderAt.put (T := 58) (e := 5) hB hb2 (bs' := bs ++ Lib.strCells s) (by simpa [Lib.strCells_length] using hown') (by decide)
  · exact (hb1.grown hgrow (by have := hb1.size; omega) (fun k hk => (hown.lt k hk).1)).setCell (p := ⟨b, 1, none⟩) hB _

set_option maxHeartbeats 1000000 in
theorem wtext_any (B b : Nat) (l : List UInt8) (w : World) (h : Wr B b l w) (h0 : l ≠ []) :
    Calls Try.prog 36 #[.pointer (some ⟨b, 0, none⟩)] w fun e w' => e = .returned (.string ⟨l.toArray⟩) ∧ Below B w w' ∧ Lib.OthersKept 5 (some b) w w' := by
  obtain ⟨p, hB, v, hbk, hown, hne⟩ : ∃ p, Lib.BuilderAt 58 5 B b p (Lib.byteCells l) w := by
    rcases h with h | h
    · exact ⟨_, h⟩
    · exact ⟨_, h⟩
  have hl0 : l.length ≠ 0 := by simpa using h0
  rw [Lib.byteCells_length] at hown
  obtain ⟨g, cap, cur, rfl, hbg, hg, hnc, hcm, hcs, htake⟩ : ∃ g cap cur, v = .slice (some ⟨g, 0, none⟩) l.length cap ∧ B ≤ g ∧ w.heap[g]? = some (.cells cur 5 (0, 0)) ∧ l.length ≤ cap ∧ cap ≤ maxLen ∧ cur.size = cap * 1 ∧ cur.toList.take (l.length * 1) = Lib.byteCells l := by
    rcases hown.2 with ⟨_, hz⟩ | ⟨g, cap, cur, hv, r⟩
    · exact absurd hz hl0
    · exact ⟨g, cap, cur, hv, r⟩
  have c1 : w.drew.cell? ⟨b, 1, none⟩ = some (.slice (some ⟨g, 0, none⟩) l.length cap) := by
    have : w.drew.heap[b]? = some (.cells #[p, .slice (some ⟨g, 0, none⟩) l.length cap] 58 (0, 0)) := hbk
    rw [Lib.cell_of_heap this]; rfl
  have hSD : (Builtin.unsafeSliceData_ #[54] 99 #[.slice (some ⟨g, 0, none⟩) l.length cap]).run Try.prog w.drew = .ok (.pointer (some ⟨g, 0, none⟩)) w.drew :=
    Lib.run_unsafeSliceData_row _ _ _ _ _ _ (by omega)
  have hUS : (Builtin.unsafeString_ #[99, 3] 9 #[.pointer (some ⟨g, 0, none⟩), .int .i64 l.length]).run Try.prog w.drew = .ok (.string ⟨l.toArray⟩) (w.drew.freeze ⟨g, 0, none⟩ l.length) := by
    refine Lib.run_unsafeString_row w.drew 99 3 9 5 Try.underlying99 cells_u8 g cur.size (by have hg' : w.drew.heap[g]? = some (.cells cur 5 (0, 0)) := hg; simp [World.shape?, hg']) l h0 (by omega) (by unfold maxLen at hcm; omega) ?_
    intro j x hx
    have := hown.cells (g := g) rfl j (.int .u8 x.toNat) (by simp [Lib.byteCells, hx])
    exact this
  go_enter Try.func36, Try.ntmps36
  go_wp2
  go_region
  all_goals (go_wp2; go_ret; exact ⟨rfl, Lib.below_freeze (Below.drew (Below.refl B w)) (p := ⟨g, 0, none⟩) hbg _, ((Lib.OthersKept.refl _ _ w).drew).freeze ⟨g, 0, none⟩ _ ⟨cur, _, hg⟩⟩)

theorem byteOf_int (n : Nat) (h : n ≤ 255) : ((byteOf n).toNat : Int) = (n : Int) := by
  unfold byteOf
  rw [UInt8.toNat_ofNat']
  omega

/-! ### text -/
def textsB (ss : List ByteArray) : List UInt8 := ss.flatMap textB
theorem textsB_snoc (ss : List ByteArray) (k : Nat) (h : k < ss.length) : textsB (ss.take (k + 1)) = textsB (ss.take k) ++ (byteOf ss[k].size :: ss[k].data.toList) := by
  unfold textsB
  rw [List.take_succ_eq_append_getElem h, List.flatMap_append]
  simp [textB]
theorem textsB_le (ss : List ByteArray) (h : ∀ s ∈ ss, s.size ≤ 255) : (textsB ss).length ≤ 256 * ss.length := by
  induction ss with
  | nil => simp [textsB]
  | cons s r ih =>
    have h1 := h s (List.mem_cons_self)
    have h2 := ih (fun x hx => h x (List.mem_cons_of_mem _ hx))
    unfold textsB at h2 ⊢
    have h3 : s.data.toList.length = s.size := ba_length s
    simp only [List.flatMap_cons, List.length_append, textB, List.length_cons, h3]
    omega
set_option maxRecDepth 100000 in
set_option maxHeartbeats 2000000 in
theorem wtexts_any (B b g c : Nat) (l : List UInt8) (ss : List ByteArray) (w : World) (h : Wr B b l w) (hlen : l.length + 256 * ss.length ≤ 100000000) (hBw : B ≤ w.heap.size) (hs : ∀ s ∈ ss, s.size ≤ 255) (hgb : g ≠ b)
    (hg : Blk w g 9 (ss.map Value.string).toArray) :
    Calls Try.prog 34 #[.pointer (some ⟨b, 0, none⟩), .slice (some ⟨g, 0, none⟩) ss.length c] w fun e w' => e = .returned (.tuple #[]) ∧ Wr B b (l ++ textsB ss) w' ∧ Below B w w' ∧ Lib.OthersKept 5 (some b) w w' := by
  have HI := Lib.hid (And.intro h hg)
  have HL := Lib.hid (And.intro hs (And.intro hBw hgb))
  have hn : ss.length ≤ 1000000 := by omega
  have HN := Lib.hid hlen
  clear h hg hlen hs hBw hgb
  go_enter Try.func34, Try.ntmps34
  go_wp2
  go_loopw [8] (fun i wr => ∃ k : Nat, k ≤ ss.length ∧ i = .int .i64 k ∧ Hid (Wr B b (l ++ textsB (ss.take k)) wr ∧ Blk wr g 9 (ss.map Value.string).toArray ∧ Below B w wr ∧ Lib.OthersKept 5 (some b) w wr)) (fun i _ => ss.length - (intOf i).toNat)
  case atStart => exact ⟨0, Nat.zero_le _, rfl, Lib.hid ⟨by simpa [textsB] using HI.out.1, HI.out.2, Below.refl _ _, Lib.OthersKept.refl _ _ _⟩⟩
  case round =>
    obtain ⟨k, hk, rfl, HK⟩ := hrel
    by_cases hlt : k < ss.length
    · have hcell : wr.cell? ⟨g, k, none⟩ = some (.string ss[k]) := by
        rw [HK.out.2.1.cell k]
        simp [List.getElem?_eq_getElem hlt]
      have hsn := textsB_snoc ss k hlt
      have hsz := HL.out.1 ss[k] (List.getElem_mem hlt)
      have hle := textsB_le (ss.take k) (fun s hx => HL.out.1 s (List.mem_of_mem_take hx))
      have hle2 : (ss.take k).length ≤ k := List.length_take_le _ _
      obtain ⟨s, hss⟩ : ∃ s, ss[k] = s := ⟨_, rfl⟩
      rw [hss] at hcell hsn hsz
      have hby := byteOf_int s.size hsz
      have hcv : IntKind.u8.wrap (s.size : Int) = ((byteOf s.size).toNat : Int) := by rw [hby, IntWalk.u8_in _ (by omega)]
      have HW1 := Lib.hid (wbyte_any B b (l ++ textsB (ss.take k)) (byteOf s.size) wr HK.out.1 (by rw [List.length_append]; have := HN.out; omega) (Nat.le_trans HL.out.2.1 (by have := HK.out.2.2.1.size; exact this)))
      have HW2 := Lib.hid (fun w1 => fun h1 : Wr B b (l ++ textsB (ss.take k) ++ [byteOf s.size]) w1 => fun hb : B ≤ w1.heap.size => wstr_any B b (l ++ textsB (ss.take k) ++ [byteOf s.size]) s w1 h1 (by rw [List.length_append, List.length_append]; have := HN.out; simp only [List.length_cons, List.length_nil]; omega) hb)
      have HS := Lib.hid hsn
      rw [← hcv, IntWalk.u8_in _ (by omega)] at HW1
      have b1 : (s.size : Int) ≤ 255 := by omega
      have b2 : s.size ≤ 255 := hsz
      clear hsn hle hle2 hss hby hcv hsz
      go_wp2_with fail
      refine HW1.out.mono ?_
      rintro e w1 ⟨rfl, h1, hb1, hk1⟩
      have HX := Lib.hid (And.intro h1 (And.intro hb1 hk1))
      clear h1 hb1 hk1
      go_wp2_with fail
      refine (HW2.out w1 HX.out.1 (Nat.le_trans HL.out.2.1 (Nat.le_trans HK.out.2.2.1.size HX.out.2.1.size))).mono ?_
      rintro e w2 ⟨rfl, h2, hb2, hk2⟩
      have HY := Lib.hid (And.intro h2 (And.intro hb2 hk2))
      clear h2 hb2 hk2
      go_wp2
      go_roundw
      case rel =>
        refine ⟨k + 1, by omega, by go_num, Lib.hid ⟨?_, ?_, (HK.out.2.2.1.trans HX.out.2.1).trans HY.out.2.1, (HK.out.2.2.2.trans HX.out.2.2).trans HY.out.2.2⟩⟩
        · have := HY.out.1
          rw [HS.out]
          simpa [List.append_assoc] using this
        · have k1 := HX.out.2.2 g _ HK.out.2.1 (by simpa using HL.out.2.2) (by intro c fz e; cases e)
          exact HY.out.2.2 g _ k1 (by simpa using HL.out.2.2) (by intro c fz e; cases e)
      case measure => simp [intOf]; omega
    · obtain rfl : k = ss.length := by omega
      go_wp2
      go_end0
      refine ⟨rfl, ?_, HK.out.2.2⟩
      have := HK.out.1
      rwa [List.take_length] at this

/-! ### kid -/
theorem be4_byte (n k : Nat) (hk : k < 4) : ∃ c : UInt8, (be4 (n : Int)).take (k + 1) = (be4 (n : Int)).take k ++ [c] ∧ IntKind.u8.wrap ((n : Int) / 2 ^ (24 - 8 * k)) = (c.toNat : Int) := by
  have hw : ∀ m : Nat, IntKind.u8.wrap (m : Int) = ((byteOf (m % 256)).toNat : Int) := by
    intro m
    rw [byteOf_int _ (by omega)]
    show (m : Int) % 256 = _
    omega
  match k, hk with
  | 0, _ => exact ⟨byteOf (n / 16777216 % 256), by simp [be4], by rw [← hw]; simp⟩
  | 1, _ => exact ⟨byteOf (n / 65536 % 256), by simp [be4], by rw [← hw]; simp⟩
  | 2, _ => exact ⟨byteOf (n / 256 % 256), by simp [be4], by rw [← hw]; simp⟩
  | 3, _ => exact ⟨byteOf (n % 256), by simp [be4], by rw [← hw]; simp⟩
set_option maxRecDepth 100000 in
set_option maxHeartbeats 2000000 in
theorem wkid_any (B b : Nat) (l : List UInt8) (d : Int) (w : World) (h : Wr B b l w) (hlen : l.length + 4 ≤ 100000000) (hBw : B ≤ w.heap.size) (h0 : 0 ≤ d) (h1 : d < 4294967296) :
    Calls Try.prog 35 #[.pointer (some ⟨b, 0, none⟩), .int .u32 d] w fun e w' => e = .returned (.tuple #[]) ∧ Wr B b (l ++ be4 d) w' ∧ Below B w w' ∧ Lib.OthersKept 5 (some b) w w' := by
  have HI := Lib.hid h
  have HL := Lib.hid (And.intro hlen hBw)
  clear h hlen hBw
  go_enter Try.func35, Try.ntmps35
  go_wp2
  go_loopw [5] (fun i wr => ∃ k : Nat, k ≤ 4 ∧ i = .int .i64 k ∧ Hid (Wr B b (l ++ (be4 d).take k) wr ∧ Below B w wr ∧ Lib.OthersKept 5 (some b) w wr)) (fun i _ => 4 - (intOf i).toNat)
  case atStart => exact ⟨0, Nat.zero_le _, rfl, Lib.hid ⟨by simpa using HI.out, Below.refl _ _, Lib.OthersKept.refl _ _ _⟩⟩
  case round =>
    obtain ⟨k, hk, rfl, HK⟩ := hrel
    by_cases hlt : k < 4
    · obtain ⟨n, rfl⟩ : ∃ n : Nat, d = n := ⟨d.toNat, by omega⟩
      obtain ⟨c, hc1, hc2⟩ := be4_byte n k hlt
      have i1 : (k : Int) < 4 := by omega
      have e1 : IntKind.i64.wrap (8 * (k : Int)) = 8 * (k : Int) := IntWalk.i64_in _ (by omega)
      have e2 : IntKind.i64.wrap (24 - 8 * (k : Int)) = 24 - 8 * (k : Int) := IntWalk.i64_in _ (by omega)
      have e3 : (24 - 8 * (k : Int)).toNat = 24 - 8 * k := by omega
      have i2 : 0 ≤ 24 - 8 * (k : Int) := by omega
      have i3 : 24 - 8 * (k : Int) ≤ 32 := by omega
      have hl4 : ((be4 (n : Int)).take k).length ≤ k := List.length_take_le _ _
      have HW := Lib.hid (wbyte_any B b (l ++ (be4 (n : Int)).take k) c wr.drew HK.out.1 (by rw [List.length_append]; have := HL.out.1; omega) (Nat.le_trans HL.out.2 (by have := HK.out.2.1.size; exact this)))
      have HC3 : Hid ((n : Int) / 2 ^ (24 - 8 * k) % 256 = (c.toNat : Int)) := Lib.hid hc2
      have HC := Lib.hid (And.intro hc1 hc2)
      clear hc1 hc2 hl4
      go_wp2
      go_still_tail 9, (by kernel_rfl)
      change wpList _ _ _ _ _ wr.drew
      obtain ⟨w5, hw5⟩ : ∃ w5, wr.drew = w5 := ⟨_, rfl⟩
      rw [hw5] at HW ⊢
      have HW5 := Lib.hid hw5
      clear hw5 e1 e2 e3 i2 i3
      go_wp2_with fail
      rw [HC.out.2, HC3.out]
      refine HW.out.mono ?_
      rintro e w1 ⟨rfl, h1, hb1, hk1⟩
      have HX := Lib.hid (And.intro h1 (And.intro hb1 hk1))
      clear h1 hb1 hk1
      go_wp2
      go_roundw
      case rel =>
        have hd : Below B w w5 := by rw [← HW5.out]; exact HK.out.2.1.drew
        have ho : Lib.OthersKept 5 (some b) w w5 := by rw [← HW5.out]; exact HK.out.2.2.drew
        refine ⟨k + 1, by omega, by go_num, Lib.hid ⟨?_, hd.trans HX.out.2.1, ho.trans HX.out.2.2⟩⟩
        have := HX.out.1
        rw [HC.out.1]
        simpa [List.append_assoc] using this
      case measure => simp [intOf]; omega
    · obtain rfl : k = 4 := by omega
      go_wp2
      go_end0
      refine ⟨rfl, ?_, HK.out.2⟩
      have := HK.out.1
      rwa [List.take_of_length_le (by simp [be4])] at this
end Go.Proofs.Ytejempihaknplaa.G

namespace Go.Proofs.Ytejempihaknplaa.G
open Go.RowKit Go.Shelf Go.Proofs.YtejempihaknplaaW.PrintWords Go.Proofs.YtejempihaknplaaW.PrintLast Go.Proofs.YtejempihaknplaaW.PrintMore
set_option linter.unusedVariables false
attribute [local go_sem] Oper.semAt_some

/-! ### the bytes, part by part -/
def partB (q : ByteArray × ByteArray × Int) : List UInt8 := if q.2.2 = 0 then textB q.1 ++ textB q.2.1 else if q.1.size = 0 then be4 q.2.2 else textB q.1 ++ be4 q.2.2
def headB (L : List (ByteArray × ByteArray × Int)) (k : Nat) : List UInt8 := (L.take k).flatMap partB
theorem headB_succ (L : List (ByteArray × ByteArray × Int)) (k : Nat) (q : ByteArray × ByteArray × Int) (h : L[k]? = some q) : headB L (k + 1) = headB L k ++ partB q := by
  obtain ⟨hk, rfl⟩ := List.getElem?_eq_some_iff.1 h
  unfold headB
  rw [List.take_succ_eq_append_getElem hk, List.flatMap_append]
  simp
theorem be4_length (d : Int) : (be4 d).length = 4 := rfl
theorem textB_length (s : ByteArray) : (textB s).length = 1 + s.size := by
  simp only [textB, List.length_cons, ba_length]
  omega
theorem partB_le {q : ByteArray × ByteArray × Int} (h : PartOk q) : (partB q).length ≤ 86 := by
  obtain ⟨h1, h2, _⟩ := h
  unfold partB
  split
  · rw [List.length_append, textB_length, textB_length]; omega
  · split
    · rw [be4_length]; omega
    · rw [List.length_append, textB_length, be4_length]; omega
theorem headB_le (L : List (ByteArray × ByteArray × Int)) (h : ∀ q ∈ L, PartOk q) : ∀ k, (headB L k).length ≤ 86 * k
  | 0 => by simp [headB]
  | k + 1 => by
    have ih := headB_le L h k
    by_cases hk : k < L.length
    · rw [headB_succ L k L[k] (List.getElem?_eq_getElem hk), List.length_append]
      have := partB_le (h L[k] (List.getElem_mem hk))
      omega
    · have e : headB L (k + 1) = headB L k := by
        unfold headB
        rw [List.take_of_length_le (by omega), List.take_of_length_le (by omega)]
      rw [e]
      omega
theorem kid_lt {ps : List S39} {ks : List ByteArray} {kd : List Int} (h : rightB ps ks kd = true) : ∀ q ∈ partsL ps ks kd, q.2.2 < 16384 := by
  intro q hq
  simp only [partsL, List.mem_append, List.mem_map] at hq
  rcases hq with ⟨p, _, rfl⟩ | ⟨⟨d, i⟩, hd, rfl⟩
  · show (0 : Int) < 16384
    omega
  · have hm := List.mem_zipIdx hd
    rcases right_or h with h | h
    · obtain ⟨_, rfl, _⟩ := leaf_facts h
      simp at hd
    · obtain ⟨_, _, _, _, h4, _⟩ := branch_facts h
      have := h4 d (by rw [hm.2.2]; exact List.getElem_mem _)
      simp only [kidOk, Bool.and_eq_true, decide_eq_true_eq] at this
      exact this.2
theorem bytes_parts {ps : List S39} {ks : List ByteArray} {kd : List Int} (h : rightB ps ks kd = true) : bytesN ps ks kd = byteOf (ps.length + kd.length) :: headB (partsL ps ks kd) (ps.length + kd.length) := by
  unfold headB
  rw [List.take_of_length_le (by rw [partsL_length]; omega)]
  rcases right_or h with h | h
  · obtain ⟨rfl, rfl, _, _⟩ := leaf_facts h
    simp only [bytesN, List.isEmpty_nil, if_true, List.length_nil, Nat.add_zero, partsL, List.zipIdx_nil, List.map_nil, List.append_nil, pairsB, List.flatMap_map]
    rfl
  · obtain ⟨rfl, h1, _, h3, h4, h5, _⟩ := branch_facts h
    cases kd with
    | nil => simp at h1
    | cons d0 r =>
      simp only [bytesN, List.isEmpty_cons, Bool.false_eq_true, if_false, List.length_nil, Nat.zero_add, partsL, List.map_nil, List.nil_append, List.headD_cons, List.tail_cons]
      congr 1
      have hlen : ks.length = r.length := by simpa using h3
      have hd0 := h4 d0 (List.mem_cons_self)
      simp only [kidOk, Bool.and_eq_true, decide_eq_true_eq] at hd0
      rw [List.zipIdx_cons, List.map_cons, List.flatMap_cons]
      congr 1
      · show be4 d0 = partB (partK ks 0, ⟨#[]⟩, d0)
        unfold partB
        rw [if_neg (by show ¬ d0 = 0; omega), if_pos (show (partK ks 0).size = 0 from rfl)]
      · unfold partsB
        have e : (r.zipIdx (0 + 1)).map (fun x => (partK ks x.2, (⟨#[]⟩ : ByteArray), x.1)) = (ks.zip r).map (fun x => (x.1, (⟨#[]⟩ : ByteArray), x.2)) := by
          apply List.ext_getElem
          · simp [hlen]
          · intro i g1 g2
            have hi : i < r.length := by simpa using g1
            have hik : i < ks.length := by omega
            simp [partK, List.getElem?_eq_getElem hik]
        rw [e, List.flatMap_map]
        have fc : ∀ (l : List (ByteArray × Int)), (∀ x ∈ l, textB x.1 ++ be4 x.2 = partB (x.1, ⟨#[]⟩, x.2)) → l.flatMap (fun x => textB x.1 ++ be4 x.2) = l.flatMap (fun x => partB (x.1, ⟨#[]⟩, x.2)) := by
          intro l
          induction l with
          | nil => intro _; rfl
          | cons x l ih =>
            intro hh
            rw [List.flatMap_cons, List.flatMap_cons, hh x (List.mem_cons_self), ih (fun y hy => hh y (List.mem_cons_of_mem _ hy))]
        refine fc _ ?_
        rintro ⟨k, d⟩ hx
        have hk := h5 k (List.of_mem_zip hx).1
        have hd := h4 d (List.mem_cons_of_mem _ (List.of_mem_zip hx).2)
        simp only [kOk, kidOk, Bool.and_eq_true, decide_eq_true_eq] at hk hd
        show textB k ++ be4 d = partB (k, ⟨#[]⟩, d)
        unfold partB
        rw [if_neg (by show ¬ d = 0; omega), if_neg (by show ¬ k.size = 0; omega)]
theorem bytes_length {ps : List S39} {ks : List ByteArray} {kd : List Int} (h : rightB ps ks kd = true) : (bytesN ps ks kd).length = sizeN ps ks kd := by
  obtain ⟨_, _, f3, f4⟩ := right_facts h
  rw [bytes_parts h, ← f4, List.length_cons]
  have key : ∀ k, k ≤ ps.length + kd.length → 1 + (headB (partsL ps ks kd) k).length = totN (partsL ps ks kd) k := by
    intro k
    induction k with
    | zero => intro _; rw [totN_zero]; simp [headB]
    | succ k ih =>
      intro hk
      have hlt : k < (partsL ps ks kd).length := by rw [partsL_length]; omega
      rw [headB_succ _ k _ (List.getElem?_eq_getElem hlt), totN_succ _ k _ (List.getElem?_eq_getElem hlt), ← ih (by omega), List.length_append]
      have e : (partB (partsL ps ks kd)[k]).length = szAt k (partsL ps ks kd)[k] := by
        unfold partB szAt
        split
        · rw [List.length_append, textB_length, textB_length]; omega
        · rename_i h0
          rcases right_or h with h | h
          · obtain ⟨rfl, rfl, _⟩ := leaf_facts h
            exfalso
            apply h0
            simp [partsL]
          · obtain ⟨rfl, h1, _, h3, h4, h5, _⟩ := branch_facts h
            have hk2 : k < kd.length := by simp only [List.length_nil] at hk; omega
            have hq := partsL_kid [] ks kd k hk2
            rw [List.length_nil, Nat.zero_add, List.getElem?_eq_getElem hlt] at hq
            have hq2 := Option.some.inj hq
            rw [hq2]
            show (if (partK ks k).size = 0 then be4 kd[k] else textB (partK ks k) ++ be4 kd[k]).length = if k = 0 then 4 else 5 + (partK ks k).size
            by_cases hk0 : k = 0
            · rw [if_pos hk0, if_pos (by rw [hk0]; rfl)]
              rfl
            · have hks : k - 1 < ks.length := by omega
              have hpk : partK ks k = ks[k - 1] := by
                unfold partK
                rw [if_neg hk0, List.getD_eq_getElem?_getD, List.getElem?_eq_getElem hks]
                rfl
              have := h5 _ (List.getElem_mem hks)
              simp only [kOk, Bool.and_eq_true, decide_eq_true_eq] at this
              rw [hpk, if_neg (by omega), if_neg hk0, List.length_append, textB_length, be4_length]
              omega
      omega
  have := key _ (Nat.le_refl _)
  omega

set_option maxHeartbeats 1000000 in
theorem encode_no (A0_0 : Option Addr) (c0_0 : Nat) (l0_0 : List S39) (A0_1 : Option Addr) (c0_1 : Nat) (l0_1 : List ByteArray) (A0_2 : Option Addr) (c0_2 : Nat) (l0_2 : List Int) (w : World) (hr0_0 : Kd.C k39 w A0_0 l0_0.length l0_0) (hc0_0 : l0_0.length ≤ c0_0) (hr0_1 : Kd.C Kd.string w A0_1 l0_1.length l0_1) (hc0_1 : l0_1.length ≤ c0_1) (hr0_2 : Kd.C (Kd.int .u32) w A0_2 l0_2.length l0_2) (hc0_2 : l0_2.length ≤ c0_2)
    (hs : smallB l0_0 l0_1 l0_2 = true) (hf : fitsB l0_0 l0_1 l0_2 = false) :
    Calls Try.prog 12 #[.agg #[.slice A0_0 l0_0.length c0_0, .slice A0_1 l0_1.length c0_1, .slice A0_2 l0_2.length c0_2]] w fun e w' => e = .returned (.tuple #[.int .i64 0, .string ⟨#[]⟩, .int .i64 60]) ∧ Below w.heap.size w w' := by
  have hsf : node_Size.f l0_0 l0_1 l0_2 = some (if rightB l0_0 l0_1 l0_2 = true then (sizeN l0_0 l0_1 l0_2 : Int) else 0) := by unfold node_Size.f; rw [if_pos hs]
  have H := Lib.hid (fun W => fun hb : Below w.heap.size w W => node_Size.calls A0_0 c0_0 l0_0 A0_1 c0_1 l0_1 A0_2 c0_2 l0_2 _ W (Kd.C_below hr0_0 hb) hc0_0 (Kd.C_below hr0_1 hb) hc0_1 (Kd.C_below hr0_2 hb) hc0_2 hsf)
  have HB := Lib.hid ((Below.refl w.heap.size w).alloc (Nat.le_refl _) (.cells #[.slice A0_0 l0_0.length c0_0, .slice A0_1 l0_1.length c0_1, .slice A0_2 l0_2.length c0_2] 26))
  have hn : (if rightB l0_0 l0_1 l0_2 = true then (sizeN l0_0 l0_1 l0_2 : Int) else 0) = 0 ∨ (237 < (if rightB l0_0 l0_1 l0_2 = true then (sizeN l0_0 l0_1 l0_2 : Int) else 0)) := by
    cases hr : rightB l0_0 l0_1 l0_2 with
    | false => exact .inl (by simp)
    | true =>
      refine .inr ?_
      simp only [if_true]
      simp only [fitsB, hr, Bool.true_and, decide_eq_false_iff_not] at hf
      omega
  generalize (if rightB l0_0 l0_1 l0_2 = true then (sizeN l0_0 l0_1 l0_2 : Int) else 0) = n at *
  clear hr0_0 hc0_0 hr0_1 hc0_1 hr0_2 hc0_2 hs hf hsf
  rcases hn with rfl | hn
  · go_enter Try.func12, Try.ntmps12
    go_wp2_with fail
    refine (H.out _ HB.out).mono ?_
    rintro e w1 ⟨rfl, hb1⟩
    go_wp2
    go_ret3
    exact ⟨rfl, bl_tr HB.out hb1⟩
  · have d0 : (n == 0) = false := by rw [beq_eq_false_iff_ne]; omega
    go_enter Try.func12, Try.ntmps12
    go_wp2_with fail
    refine (H.out _ HB.out).mono ?_
    rintro e w1 ⟨rfl, hb1⟩
    go_wp2
    go_ret3
    exact ⟨rfl, bl_tr HB.out hb1⟩

/-! ### what stands in memory while the parts are written -/
theorem Wr.move {B b : Nat} {l : List UInt8} {w w' : World} (h : Wr B b l w) (hm : ∀ k, k = b ∨ (∃ c fz, w.heap[k]? = some (.cells c 5 fz)) → w'.heap[k]? = w.heap[k]?) : Wr B b l w' := by
  have key : ∀ p, Lib.BuilderAt 58 5 B b p (Lib.byteCells l) w → Lib.BuilderAt 58 5 B b p (Lib.byteCells l) w' := by
    rintro p ⟨hB, v, hb, hown, hne⟩
    exact ⟨hB, v, (hm b (.inl rfl)).trans hb, own_move hown (fun k hk => hm k (.inr (own_kind hown k hk))), hne⟩
  exact h.elim (fun x => .inl (key _ x)) (fun x => .inr (key _ x))
theorem Wr.lt {B b : Nat} {l : List UInt8} {w : World} (h : Wr B b l w) : b < w.heap.size := h.elim (fun x => x.lt) (fun x => x.lt)
/-- The writer (block M), its variable, the node (twice), the loop's record, what was deferred. -/
structure EncInv (w : World) (M M2 : Nat) (C : Array Value) (o : Obj) (bytes : List UInt8) (W : World) : Prop where
  wr : Wr w.heap.size M bytes W
  var : Blk W (M + 1) 52 #[.pointer (some ⟨M, 0, none⟩)]
  node : Blk W w.heap.size 26 C
  copy : Blk W M2 26 C
  loop : W.heap[M2 + 1 + 1]? = some o
  defd : W.heap[M2 + 1]? = some (.deferred (some []))
  below : Below w.heap.size w W
section
variable {w : World} {M M2 : Nat} {C : Array Value} {o : Obj} {bytes : List UInt8} {W : World}
theorem EncInv.alloc (h : EncInv w M M2 C o bytes W) (x : Obj) : EncInv w M M2 C o bytes (W.alloc x) :=
  ⟨h.wr.move (fun k hk => Below.heap_alloc _ _ _ (by
    rcases hk with rfl | ⟨c, fz, hk⟩
    · exact h.wr.lt
    · exact (Array.getElem?_eq_some_iff.1 hk).1)), h.var.alloc x, h.node.alloc x, h.copy.alloc x,
   (Below.heap_alloc _ _ _ (Array.getElem?_eq_some_iff.1 h.loop).1).trans h.loop, (Below.heap_alloc _ _ _ (Array.getElem?_eq_some_iff.1 h.defd).1).trans h.defd, bl_al h.below x⟩
theorem EncInv.put (h : EncInv w M M2 C o bytes W) (ho : ∀ c t fz, o ≠ .cells c t fz) (x : Obj) (h1 : M < M2) (h2 : w.heap.size < M2) (h3 : M + 1 < M2) : EncInv w M M2 C x bytes (W.putObj (M2 + 1 + 1) x) :=
  ⟨h.wr.move (fun k hk => World.putObj_heap_other (by
    rcases hk with rfl | ⟨c, fz, hk⟩
    · omega
    · rintro rfl
      rw [h.loop] at hk
      exact ho _ _ _ (Option.some.inj hk))), h.var.putObj (by omega) x, h.node.putObj (by omega) x, h.copy.putObj (by omega) x,
   World.putObj_heap_same (Array.getElem?_eq_some_iff.1 h.loop).1, (World.putObj_heap_other (by omega)).trans h.defd, below_putObj h.below (by omega) x⟩
theorem EncInv.step (h : EncInv w M M2 C o bytes W) (ho : ∀ c t fz, o ≠ .cells c t fz) (h1 : M < M2) (h2 : w.heap.size < M) {W' : World} {bytes' : List UInt8} (hw : Wr w.heap.size M bytes' W') (hb : Below w.heap.size W W') (hk : Lib.OthersKept 5 (some M) W W') : EncInv w M M2 C o bytes' W' :=
  ⟨hw, hk _ _ h.var (by simp) (by intro c fz e; cases e), hk _ _ h.node (by simp; omega) (by intro c fz e; cases e), hk _ _ h.copy (by simp; omega) (by intro c fz e; cases e), hk _ _ h.loop (by simp; omega) (fun c fz => ho c _ fz), hk _ _ h.defd (by simp; omega) (by intro c fz e; cases e), h.below.trans hb⟩
end

set_option maxRecDepth 100000 in
set_option maxHeartbeats 4000000 in
theorem encode_yes (A0_0 : Option Addr) (c0_0 : Nat) (l0_0 : List S39) (A0_1 : Option Addr) (c0_1 : Nat) (l0_1 : List ByteArray) (A0_2 : Option Addr) (c0_2 : Nat) (l0_2 : List Int) (w : World) (hr0_0 : Kd.C k39 w A0_0 l0_0.length l0_0) (hc0_0 : l0_0.length ≤ c0_0) (hr0_1 : Kd.C Kd.string w A0_1 l0_1.length l0_1) (hc0_1 : l0_1.length ≤ c0_1) (hr0_2 : Kd.C (Kd.int .u32) w A0_2 l0_2.length l0_2) (hc0_2 : l0_2.length ≤ c0_2)
    (hs : smallB l0_0 l0_1 l0_2 = true) (hr : rightB l0_0 l0_1 l0_2 = true) (hz : sizeN l0_0 l0_1 l0_2 ≤ 237) :
    Calls Try.prog 12 #[.agg #[.slice A0_0 l0_0.length c0_0, .slice A0_1 l0_1.length c0_1, .slice A0_2 l0_2.length c0_2]] w fun e w' => e = .returned (.tuple #[.int .i64 (if l0_2.isEmpty then 1 else 2), .string ⟨(bytesN l0_0 l0_1 l0_2).toArray⟩, .int .i64 0]) ∧ Below w.heap.size w w' := by
  obtain ⟨kn, hkn⟩ : ∃ kn : Int, (if l0_2.isEmpty = true then (1 : Int) else 2) = kn := ⟨_, rfl⟩
  rw [hkn]
  have HKN := Lib.hid hkn
  clear hkn
  obtain ⟨f1, f2, f3, f4⟩ := right_facts hr
  have f5 := kid_lt hr
  have f6 := bytes_parts hr
  have hz0 : 1 ≤ sizeN l0_0 l0_1 l0_2 := by unfold sizeN; split <;> omega
  have hsf : node_Size.f l0_0 l0_1 l0_2 = some (sizeN l0_0 l0_1 l0_2 : Int) := by unfold node_Size.f; rw [if_pos hs, if_pos hr]
  have H := Lib.hid (fun W => fun hb : Below w.heap.size w W => node_Size.calls A0_0 c0_0 l0_0 A0_1 c0_1 l0_1 A0_2 c0_2 l0_2 _ W (Kd.C_below hr0_0 hb) hc0_0 (Kd.C_below hr0_1 hb) hc0_1 (Kd.C_below hr0_2 hb) hc0_2 hsf)
  have HB := Lib.hid ((Below.refl w.heap.size w).alloc (Nat.le_refl _) (.cells #[.slice A0_0 l0_0.length c0_0, .slice A0_1 l0_1.length c0_1, .slice A0_2 l0_2.length c0_2] 26))
  have HC := Lib.hid (And.intro hr0_0 (And.intro hr0_1 (And.intro hr0_2 f1)))
  have HF := Lib.hid (And.intro f2 (And.intro f3 (And.intro f5 f6)))
  have HX := Lib.hid (Blk.new w 26 #[.slice A0_0 l0_0.length c0_0, .slice A0_1 l0_1.length c0_1, .slice A0_2 l0_2.length c0_2])
  have d0 : ((sizeN l0_0 l0_1 l0_2 : Int) == 0) = false := by rw [beq_eq_false_iff_ne]; omega
  have d1 : ¬ (237 : Int) < (sizeN l0_0 l0_1 l0_2 : Int) := by omega
  generalize sizeN l0_0 l0_1 l0_2 = sz at *
  clear hr0_0 hc0_0 hr0_1 hc0_1 hr0_2 hc0_2 hs hr f1 f2 f3 f4 f5 f6 hsf hz0 hz
  refine (callsIn_wide (n := 9)).1 (callsIn_of_wp_marks Try.func12 rfl trivial ?_ rfl)
  simp only [Try.ntmps12, List.size_toArray, List.length_cons, List.length_nil, Nat.reduceAdd, Nat.reduceSub, Array.replicate_succ, Array.replicate_zero, List.push_toArray, List.append_toArray, List.nil_append, List.cons_append]
  refine wpIn_wide.2 ?_
  go_wp2_with fail
  refine (H.out _ HB.out).mono ?_
  rintro e w1 ⟨rfl, hb1⟩
  have hx1 := HX.out.below hb1 (by simp)
  have c0 : w1.cell? ⟨w.heap.size, 0, none⟩ = some (.slice A0_0 l0_0.length c0_0) := hx1.cell 0
  have c1 : w1.cell? ⟨w.heap.size, 1, none⟩ = some (.slice A0_1 l0_1.length c0_1) := hx1.cell 1
  have c2 : w1.cell? ⟨w.heap.size, 2, none⟩ = some (.slice A0_2 l0_2.length c0_2) := hx1.cell 2
  have hlt : w.heap.size < w1.heap.size := by have := hb1.size; simp at this; omega
  have hlt2 : w.heap.size < w1.heap.size + 1 := by omega
  have HB1 := Lib.hid (And.intro (bl_tr HB.out hb1) hx1)
  have hcl : (l0_0.length : Int) + (l0_2.length : Int) ≤ 255 := by have := HF.out.1; omega
  have hcn : ((byteOf (l0_0.length + l0_2.length)).toNat : Int) = (l0_0.length : Int) + (l0_2.length : Int) := by rw [byteOf_int _ HF.out.1]; omega
  have HCN := Lib.hid hcn
  clear hx1 hb1 hcn
  go_wp2_with fail
  have kb : Wr w.heap.size w1.heap.size [] ((w1.alloc (.cells #[.pointer none, .slice none 0 0] 58)).alloc (.cells #[.pointer (some ⟨w1.heap.size, 0, none⟩)] 52)) :=
    .inl ⟨by omega, .slice none 0 0, (Blk.new w1 _ _).alloc _, World.ownsRow_nil _ _ _ _, by simp [Value.ownBlock]⟩
  have k6 : Blk ((w1.alloc (.cells #[.pointer none, .slice none 0 0] 58)).alloc (.cells #[.pointer (some ⟨w1.heap.size, 0, none⟩)] 52)) (w1.heap.size + 1) 52 #[.pointer (some ⟨w1.heap.size, 0, none⟩)] := by
    have := Blk.new (w1.alloc (.cells #[.pointer none, .slice none 0 0] 58)) 52 #[.pointer (some ⟨w1.heap.size, 0, none⟩)]
    rw [World.size_alloc] at this
    exact this
  have kn : Blk ((w1.alloc (.cells #[.pointer none, .slice none 0 0] 58)).alloc (.cells #[.pointer (some ⟨w1.heap.size, 0, none⟩)] 52)) w.heap.size 26 #[.slice A0_0 l0_0.length c0_0, .slice A0_1 l0_1.length c0_1, .slice A0_2 l0_2.length c0_2] := (HB1.out.2.alloc _).alloc _
  have kB : Below w.heap.size w ((w1.alloc (.cells #[.pointer none, .slice none 0 0] 58)).alloc (.cells #[.pointer (some ⟨w1.heap.size, 0, none⟩)] 52)) := bl_al (bl_al HB1.out.1 _) _
  have ksz5 : ((w1.alloc (.cells #[.pointer none, .slice none 0 0] 58)).alloc (.cells #[.pointer (some ⟨w1.heap.size, 0, none⟩)] 52)).heap.size = w1.heap.size + 2 := by simp
  generalize ((w1.alloc (.cells #[.pointer none, .slice none 0 0] 58)).alloc (.cells #[.pointer (some ⟨w1.heap.size, 0, none⟩)] 52)) = W5 at *
  clear c0 c1 c2 HB1 hlt2 H HB HX d0
  generalize w1.heap.size = M at *
  clear w1
  have g6 : W5.cell? ⟨M + 1, 0, none⟩ = some (.pointer (some ⟨M, 0, none⟩)) := k6.cell 0
  have n0 : W5.cell? ⟨w.heap.size, 0, none⟩ = some (.slice A0_0 l0_0.length c0_0) := kn.cell 0
  have n2 : W5.cell? ⟨w.heap.size, 2, none⟩ = some (.slice A0_2 l0_2.length c0_2) := kn.cell 2
  have i0 : (0 : Int) ≤ (l0_0.length : Int) := by omega
  have i2 : (0 : Int) ≤ (l0_2.length : Int) := by omega
  have hwb := wbyte_any w.heap.size M [] (byteOf (l0_0.length + l0_2.length)) W5.drew kb (by simp) (by have := kB.size; exact this)
  rw [HCN.out] at hwb
  have HWB := Lib.hid hwb
  have HK := Lib.hid (And.intro kb (And.intro k6 (And.intro kn kB)))
  have HS5 := Lib.hid (And.intro ksz5 hlt)
  clear kb k6 kn kB ksz5 hlt hwb
  go_still_tail 11, (by kernel_rfl)
  change wpList _ _ _ _ _ W5.drew
  go_wp2_with fail
  refine HWB.out.mono ?_
  rintro e w2 ⟨rfl, h2, hb2, hk2⟩
  have hM := HS5.out.2
  have k6 : Blk w2 (M + 1) 52 #[.pointer (some ⟨M, 0, none⟩)] := hk2 _ _ HK.out.2.1 (by simp) (by intro c fz e; cases e)
  have kn : Blk w2 w.heap.size 26 #[.slice A0_0 l0_0.length c0_0, .slice A0_1 l0_1.length c0_1, .slice A0_2 l0_2.length c0_2] := hk2 _ _ HK.out.2.2.1 (by simp; omega) (by intro c fz e; cases e)
  have kB : Below w.heap.size w w2 := HK.out.2.2.2.drew.trans hb2
  have m0 : w2.cell? ⟨w.heap.size, 0, none⟩ = some (.slice A0_0 l0_0.length c0_0) := kn.cell 0
  have m1 : w2.cell? ⟨w.heap.size, 1, none⟩ = some (.slice A0_1 l0_1.length c0_1) := kn.cell 1
  have m2 : w2.cell? ⟨w.heap.size, 2, none⟩ = some (.slice A0_2 l0_2.length c0_2) := kn.cell 2
  have hsz : M + 2 ≤ w2.heap.size := by have h := hb2.size; have h2 := HS5.out.1; have h3 : W5.drew.heap.size = W5.heap.size := rfl; omega
  have HK2 := Lib.hid (And.intro h2 (And.intro k6 (And.intro kn (And.intro kB (And.intro hsz hM)))))
  clear h2 hb2 hk2 k6 kn kB hsz HK HWB hM g6 n0 n2 HS5 HCN
  go_wp2_with fail
  refine (parts_any _ _ _ _ _ _ _ _ _ _).mono ?_
  rintro e w3 ⟨rfl, rfl⟩
  go_wp2_with fail
  have ksz : (w2.alloc (.cells #[.slice A0_0 l0_0.length c0_0, .slice A0_1 l0_1.length c0_1, .slice A0_2 l0_2.length c0_2] 26)).heap.size = w2.heap.size + 1 := by simp
  obtain ⟨C, hC⟩ : ∃ C : Array Value, #[.slice A0_0 l0_0.length c0_0, .slice A0_1 l0_1.length c0_1, .slice A0_2 l0_2.length c0_2] = C := ⟨_, rfl⟩
  have hI0 : ∀ rec : LoopState → Option Code → Obj, EncInv w M w2.heap.size C (rec .ready none) [byteOf (l0_0.length + l0_2.length)] (((w2.alloc (.cells #[.slice A0_0 l0_0.length c0_0, .slice A0_1 l0_1.length c0_1, .slice A0_2 l0_2.length c0_2] 26)).alloc (.deferred (some []))).alloc (rec .ready none)) := by
    intro rec
    rw [hC]
    obtain ⟨j1, j2, j3, j4, j5, j6⟩ := HK2.out
    rw [hC] at j3
    have q1 : Wr w.heap.size M [byteOf (l0_0.length + l0_2.length)] (((w2.alloc (.cells C 26)).alloc (.deferred (some []))).alloc (rec .ready none)) := j1.move (fun k hk => by
      have hlt : k < w2.heap.size := by
        rcases hk with rfl | ⟨c, fz, hk⟩
        · exact j1.lt
        · exact (Array.getElem?_eq_some_iff.1 hk).1
      exact (Below.heap_alloc _ _ _ (by simp; omega)).trans ((Below.heap_alloc _ _ _ (by simp; omega)).trans (Below.heap_alloc _ _ _ hlt)))
    refine ⟨q1, ((j2.alloc _).alloc _).alloc _, ((j3.alloc _).alloc _).alloc _, ((Blk.new w2 _ _).alloc _).alloc _, ?_, ?_, bl_al (bl_al (bl_al j4 _) _) _⟩
    · have := World.alloc_heap_new ((w2.alloc (.cells C 26)).alloc (.deferred (some []))) (rec .ready none)
      rw [World.size_alloc, World.size_alloc] at this
      exact this
    · have := World.alloc_heap_new (w2.alloc (.cells C 26)) (.deferred (some []))
      rw [World.size_alloc] at this
      exact (Below.heap_alloc _ _ _ (by simp)).trans this
  have hM : w.heap.size < M ∧ M + 1 < w2.heap.size := by have h := HK2.out; exact ⟨h.2.2.2.2.2, by have := h.2.2.2.2.1; omega⟩
  generalize (w2.alloc (.cells #[.slice A0_0 l0_0.length c0_0, .slice A0_1 l0_1.length c0_1, .slice A0_2 l0_2.length c0_2] 26)) = W0 at *
  clear m0 m1 m2 HK2
  generalize w2.heap.size = M2 at *
  clear w2
  refine (wpIn_wide (n := 9)).1 ?_
  refine wpIn_rf rfl (fun h => by cases h) (gf := 60) (lb := #[.pointer (some ⟨M2, 0, none⟩)]) rfl trivial (enters_of Try.func60 (by kernel_rfl) rfl) ?_
  intro fn rec _ hrec
  have hI := hI0 rec
  clear hI0
  have hnc : ∀ (s : LoopState) (pe : Option Code) c t fz, rec s pe ≠ .cells c t fz := by
    intro s pe c t fz e
    rw [hrec] at e
    cases e
  obtain ⟨L, hL⟩ : ∃ L, partsL l0_0 l0_1 l0_2 = L := ⟨_, rfl⟩
  refine (parts1_in (9 - 1) (W0.heap.size + 1) M2 A0_0 c0_0 l0_0 A0_1 c0_1 l0_1 A0_2 c0_2 l0_2 w HC.out.1 HC.out.2.1 HC.out.2.2.1 HC.out.2.2.2
    (fun k W => EncInv w M M2 C (rec .ready none) (byteOf (l0_0.length + l0_2.length) :: headB L k) W)
    (fun k W o h => h.alloc o) (fun k W h => h.below) (fun k W h => by rw [hC]; exact h.copy) ?hY _ hI).mono ?fin
  case hY =>
    rintro k W q hq hJ
    rw [hL] at hq
    have hok := HF.out.2.1 q (by rw [hL]; exact List.mem_of_getElem? hq)
    have hkd := HF.out.2.2.1 q (by rw [hL]; exact List.mem_of_getElem? hq)
    have hkl : k ≤ 255 := by
      have h1 := (List.getElem?_eq_some_iff.1 hq).1
      rw [← hL, partsL_length] at h1
      have := HF.out.1
      omega
    have hts := headB_succ L k q hq
    have htl := headB_le L (by rw [← hL]; exact HF.out.2.1) k
    obtain ⟨s1, s2, d⟩ := q
    obtain ⟨p1, p2, p3⟩ := hok
    change s1.size ≤ 24 at p1
    change s2.size ≤ 60 at p2
    change 0 ≤ d at p3
    change d < 16384 at hkd
    have hdl := (Array.getElem?_eq_some_iff.1 hJ.loop).1
    have hl0 := hJ.loop
    rw [← ksz] at hl0 hdl
    refine yieldAt_of hrec trivial hl0 rfl ?_
    have HR := Lib.hid hrec
    have HQ := Lib.hid (And.intro hts htl)
    clear hrec hts hq hL htl hI
    rw [ksz] at hl0 hdl ⊢
    rw [show partV (s1, s2, d) = #[.string s1, .string s2, .int .u32 d] from rfl]
    have f0 := (hJ.alloc (.cells #[.string s1, .string s2, .int .u32 d] 67)).put (hnc _ _) (rec .busy none) (by omega) (by omega) hM.2
    have f1 : Blk ((W.alloc (.cells #[.string s1, .string s2, .int .u32 d] 67)).putObj (M2 + 1 + 1) (rec .busy none)) W.heap.size 67 #[.string s1, .string s2, .int .u32 d] := (Blk.new W _ _).putObj (by omega) _
    have HJ := Lib.hid hJ
    clear hJ
    gi_wp2
    refine ⟨(Below.heap_alloc _ _ _ hdl).trans hl0, ?_⟩
    generalize (W.alloc (.cells #[.string s1, .string s2, .int .u32 d] 67)).putObj (M2 + 1 + 1) (rec .busy none) = W1 at *
    have g1 : W1.cell? ⟨W.heap.size, 0, none⟩ = some (.string s1) := f1.cell 0
    have g2 : W1.cell? ⟨W.heap.size, 1, none⟩ = some (.string s2) := f1.cell 1
    have g3 : W1.cell? ⟨W.heap.size, 2, none⟩ = some (.int .u32 d) := f1.cell 2
    have g4 : W1.cell? ⟨M + 1, 0, none⟩ = some (.pointer (some ⟨M, 0, none⟩)) := f0.var.cell 0
    have g5 := f1.lt
    have hsw : w.heap.size ≤ W1.heap.size := f0.below.size
    have hlen : (byteOf (l0_0.length + l0_2.length) :: headB L k).length ≤ 30000 := by rw [List.length_cons]; have := HQ.out.2; omega
    have hM1 : M < W1.heap.size := f0.wr.lt
    have hMW : M < W.heap.size := HJ.out.wr.lt
    by_cases hd0 : d = 0
    · subst hd0
      have hA := wtexts_any w.heap.size M W1.heap.size 2 (byteOf (l0_0.length + l0_2.length) :: headB L k) [s1, s2] (W1.alloc (.cells #[.string s1, .string s2] 9)) (f0.alloc _).wr (by simp only [List.length_cons, List.length_nil] at hlen ⊢; omega) (by simp; omega)
        (by intro s hs; simp at hs; rcases hs with rfl | rfl <;> omega) (by omega) (Blk.new W1 _ _)
      have HA := Lib.hid hA
      have HP := Lib.hid f0
      have hby : byteOf (l0_0.length + l0_2.length) :: headB L (k + 1) = byteOf (l0_0.length + l0_2.length) :: headB L k ++ textsB [s1, s2] := by
        rw [HQ.out.1]
        simp [partB, textsB]
      have HY := Lib.hid hby
      clear hA f0 f1 hlen hby hl0 hdl hsw
      gi_wp2_with fail
      refine ⟨trivial, ((callsIn_wide.2 HA.out).inRound _).mono ?_⟩
      rintro e w3 ⟨rfl, h3, hb3, hk3⟩
      have s3 := (HP.out.alloc (.cells #[.string s1, .string s2] 9)).step (hnc _ _) (by omega) hM.1 h3 hb3 hk3
      have HS := Lib.hid s3
      clear s3 h3 hb3 hk3
      gi_wp2
      refine ⟨HS.out.loop, rfl, ?_⟩
      rw [HY.out]
      exact HS.out.put (hnc _ _) (rec .ready none) (by omega) (by omega) hM.2
    · have hd1 : ((d : Int) == 0) = false := by rw [beq_eq_false_iff_ne]; exact hd0
      by_cases hs1 : s1.size = 0
      · have e1 : s1 = ⟨#[]⟩ := by
          have : s1.data.toList = [] := List.eq_nil_of_length_eq_zero (by rw [ba_length]; exact hs1)
          exact ba_ext (by rw [this])
        have hB := fun W' (h : EncInv w M M2 C (rec .busy none) (byteOf (l0_0.length + l0_2.length) :: headB L k) W') => wkid_any w.heap.size M (byteOf (l0_0.length + l0_2.length) :: headB L k) d W' h.wr (by omega) h.below.size p3 (by omega)
        have HBB := Lib.hid hB
        have HP := Lib.hid f0
        have hby : byteOf (l0_0.length + l0_2.length) :: headB L (k + 1) = byteOf (l0_0.length + l0_2.length) :: headB L k ++ be4 d := by
          rw [HQ.out.1]
          unfold partB
          rw [if_neg hd0, if_pos hs1]
          simp
        have HY := Lib.hid hby
        subst e1
        clear hB f0 f1 hlen hby hl0 hdl hsw hs1 hd0
        gi_wp2_with fail
        refine ⟨trivial, ((callsIn_wide.2 (HBB.out _ HP.out)).inRound _).mono ?_⟩
        rintro e w3 ⟨rfl, h3, hb3, hk3⟩
        have s3 := HP.out.step (hnc _ _) (by omega) hM.1 h3 hb3 hk3
        have HS := Lib.hid s3
        clear s3 h3 hb3 hk3
        gi_wp2
        refine ⟨HS.out.loop, rfl, ?_⟩
        rw [HY.out]
        exact HS.out.put (hnc _ _) (rec .ready none) (by omega) (by omega) hM.2
      · have e1 : ¬ s1.toList = [] := by
          rw [ByteArray.toList_eq]
          intro h
          apply hs1
          rw [← ba_length, h]
          rfl
        have e2 : (!s1.toList.isEmpty) = true := by
          cases h : s1.toList with
          | nil => exact absurd h e1
          | cons _ _ => rfl
        have hA := wtexts_any w.heap.size M W1.heap.size 1 (byteOf (l0_0.length + l0_2.length) :: headB L k) [s1] (W1.alloc (.cells #[.string s1] 9)) (f0.alloc _).wr (by simp only [List.length_cons, List.length_nil] at hlen ⊢; omega) (by simp; omega)
          (by intro s hs; simp at hs; rcases hs with rfl; omega) (by omega) (Blk.new W1 _ _)
        have HA := Lib.hid hA
        have hB := fun W' (h : EncInv w M M2 C (rec .busy none) (byteOf (l0_0.length + l0_2.length) :: headB L k ++ textsB [s1]) W') => wkid_any w.heap.size M (byteOf (l0_0.length + l0_2.length) :: headB L k ++ textsB [s1]) d W' h.wr (by rw [List.length_append]; have : (textsB [s1]).length ≤ 256 := textsB_le [s1] (by intro s hs; simp at hs; subst hs; omega); omega) h.below.size p3 (by omega)
        have HBB := Lib.hid hB
        have HP := Lib.hid (And.intro f0 f1)
        have hby : byteOf (l0_0.length + l0_2.length) :: headB L (k + 1) = byteOf (l0_0.length + l0_2.length) :: headB L k ++ textsB [s1] ++ be4 d := by
          rw [HQ.out.1]
          unfold partB
          rw [if_neg hd0, if_neg hs1]
          simp [textsB]
        have HY := Lib.hid hby
        clear hA hB f0 f1 hlen hby hl0 hdl hsw hs1 hd0
        gi_wp2_with fail
        refine ⟨trivial, ((callsIn_wide.2 HA.out).inRound _).mono ?_⟩
        rintro e w3 ⟨rfl, h3, hb3, hk3⟩
        have s3 := (HP.out.1.alloc (.cells #[.string s1] 9)).step (hnc _ _) (by omega) hM.1 h3 hb3 hk3
        have b1 : Blk w3 W.heap.size 67 #[.string s1, .string s2, .int .u32 d] := hk3 _ _ (HP.out.2.alloc _) (by simp; omega) (by intro c fz e; cases e)
        have q3 : w3.cell? ⟨W.heap.size, 2, none⟩ = some (.int .u32 d) := b1.cell 2
        have q4 : w3.cell? ⟨M + 1, 0, none⟩ = some (.pointer (some ⟨M, 0, none⟩)) := s3.var.cell 0
        have HS := Lib.hid s3
        clear s3 h3 hb3 hk3 b1
        gi_wp2_with fail
        refine ⟨trivial, ((callsIn_wide.2 (HBB.out _ HS.out)).inRound _).mono ?_⟩
        rintro e w4 ⟨rfl, h4, hb4, hk4⟩
        have s4 := HS.out.step (hnc _ _) (by omega) hM.1 h4 hb4 hk4
        have HS4 := Lib.hid s4
        clear s4 h4 hb4 hk4
        gi_wp2
        refine ⟨HS4.out.loop, rfl, ?_⟩
        rw [HY.out]
        exact HS4.out.put (hnc _ _) (rec .ready none) (by omega) (by omega) hM.2
  case fin =>
    rintro e W ⟨he, hJ⟩
    refine ⟨he, .ready, none, by simp, by rw [ksz]; exact hJ.loop, ?_⟩
    rw [ksz]
    have h1 := hJ.put (hnc _ _) (rec .exhausted none) (by omega) (by omega) hM.2
    dsimp only
    have hb := HF.out.2.2.2
    rw [hL] at hb
    rw [← hb] at h1
    generalize W.putObj (M2 + 1 + 1) (rec .exhausted none) = W1 at *
    have g4 : W1.cell? ⟨M + 1, 0, none⟩ = some (.pointer (some ⟨M, 0, none⟩)) := h1.var.cell 0
    have hn := h1.node
    rw [← hC] at hn
    have g5 : W1.cell? ⟨w.heap.size, 2, none⟩ = some (.slice A0_2 l0_2.length c0_2) := hn.cell 2
    have HW := Lib.hid (wtext_any w.heap.size M (bytesN l0_0 l0_1 l0_2) W1 h1.wr (by rw [hb]; simp))
    have H1 := Lib.hid h1
    clear h1 hJ hrec hL hC hb hn hI he hnc
    by_cases hk : (0 : Int) < (l0_2.length : Int)
    · have he : kn = 2 := by
        rw [← HKN.out]
        cases l0_2 with
        | nil => simp at hk
        | cons _ _ => rfl
      have HE := Lib.hid he
      clear he
      go_wp2_with fail
      refine HW.out.mono ?_
      rintro e w4 ⟨rfl, hb4, hk4⟩
      have hK : w4.heap[M2 + 1]? = some (.deferred (some [])) := hk4 _ _ H1.out.defd (by simp; omega) (by intro c fz e; cases e)
      have HB4 := Lib.hid (And.intro hK (H1.out.below.trans hb4))
      clear hb4 hk4 hK
      go_wp2
      refine ⟨by simp, .inl ⟨_, _, rfl, run_takeDeferred HB4.out.1, ?_⟩⟩
      exact ⟨_, results_tmp3 rfl _ _ _, by rw [HE.out]; rfl, below_putObj HB4.out.2 (by omega) _⟩
    · have he : kn = 1 := by
        rw [← HKN.out]
        cases l0_2 with
        | nil => rfl
        | cons _ _ => simp at hk
      have HE := Lib.hid he
      clear he
      go_wp2_with fail
      refine HW.out.mono ?_
      rintro e w4 ⟨rfl, hb4, hk4⟩
      have hK : w4.heap[M2 + 1]? = some (.deferred (some [])) := hk4 _ _ H1.out.defd (by simp; omega) (by intro c fz e; cases e)
      have HB4 := Lib.hid (And.intro hK (H1.out.below.trans hb4))
      clear hb4 hk4 hK
      go_wp2
      refine ⟨by simp, .inl ⟨_, _, rfl, run_takeDeferred HB4.out.1, ?_⟩⟩
      exact ⟨_, results_tmp3 rfl _ _ _, by rw [HE.out]; rfl, below_putObj HB4.out.2 (by omega) _⟩

theorem node_Encode.calls (A0_0 : Option Addr) (c0_0 : Nat) (l0_0 : List S39) (A0_1 : Option Addr) (c0_1 : Nat) (l0_1 : List ByteArray) (A0_2 : Option Addr) (c0_2 : Nat) (l0_2 : List Int) (r1 : Int) (r2 : ByteArray) (r3 : Int) (w : World) (hr0_0 : Kd.C k39 w A0_0 l0_0.length l0_0) (hc0_0 : l0_0.length ≤ c0_0) (hr0_1 : Kd.C Kd.string w A0_1 l0_1.length l0_1) (hc0_1 : l0_1.length ≤ c0_1) (hr0_2 : Kd.C (Kd.int .u32) w A0_2 l0_2.length l0_2) (hc0_2 : l0_2.length ≤ c0_2) (h : node_Encode.f l0_0 l0_1 l0_2 = some (r1, r2, r3)) :
    Calls Try.prog 12 #[.agg #[.slice A0_0 l0_0.length c0_0, .slice A0_1 l0_1.length c0_1, .slice A0_2 l0_2.length c0_2]] w fun e w' => e = .returned (.tuple #[.int .i64 r1, .string r2, .int .i64 r3]) ∧ Below w.heap.size w w' := by
  unfold node_Encode.f at h
  by_cases hs : smallB l0_0 l0_1 l0_2 = true
  · rw [if_pos hs] at h
    cases hf : fitsB l0_0 l0_1 l0_2 with
    | true =>
      rw [hf, if_pos rfl] at h
      simp only [Option.some.injEq, Prod.mk.injEq] at h
      obtain ⟨rfl, rfl, rfl⟩ := h
      simp only [fitsB, Bool.and_eq_true, decide_eq_true_eq] at hf
      exact encode_yes A0_0 c0_0 l0_0 A0_1 c0_1 l0_1 A0_2 c0_2 l0_2 w hr0_0 hc0_0 hr0_1 hc0_1 hr0_2 hc0_2 hs hf.1 hf.2
    | false =>
      rw [hf, if_neg (by simp)] at h
      simp only [Option.some.injEq, Prod.mk.injEq] at h
      obtain ⟨rfl, rfl, rfl⟩ := h
      exact encode_no A0_0 c0_0 l0_0 A0_1 c0_1 l0_1 A0_2 c0_2 l0_2 w hr0_0 hc0_0 hr0_1 hc0_1 hr0_2 hc0_2 hs hf
  · rw [if_neg hs] at h
    cases h
end Go.Proofs.Ytejempihaknplaa.G

namespace Go.Proofs.Ytejempihaknplaa.G
open Go.RowKit Go.Shelf Go.Proofs.YtejempihaknplaaW.PrintWords Go.Proofs.YtejempihaknplaaW.PrintLast Go.Proofs.YtejempihaknplaaW.PrintMore
set_option linter.unusedVariables false

/-- A row of no elements. -/
theorem C_nil {α : Type} (d : Kd α) (w : World) : Kd.C d w none 0 [] := ⟨rfl, by omega, fun h => absurd h (by omega)⟩
set_option maxRecDepth 100000 in
set_option maxHeartbeats 1000000 in
theorem take_none (b : Nat) (w : World) (h : Blk w b 93 #[.string ⟨#[]⟩, .bool false]) :
    Calls Try.prog 56 #[.pointer (some ⟨b, 0, none⟩), .int .i64 1] w fun e w' => e = .returned (.string ⟨#[0]⟩) ∧ w.setCell ⟨b, 1, none⟩ (.bool true) = w' := by
  have c0 : w.cell? ⟨b, 0, none⟩ = some (.string ⟨#[]⟩) := h.cell 0
  have c1 : w.cell? ⟨b, 1, none⟩ = some (.bool false) := h.cell 1
  have f1 := h.frozen 1
  clear h
  go_enter Try.func56, Try.ntmps56
  go_wp2_with fail
  refine (Try.strings_Repeat_one _ _).mono ?_
  rintro e w1 ⟨rfl, rfl⟩
  go_wp2
  go_ret
  exact ⟨rfl, rfl⟩

set_option maxRecDepth 100000 in
set_option maxHeartbeats 2000000 in
theorem decode_none (w : World) :
    Calls Try.prog 31 #[.int .i64 9, .string ⟨#[]⟩] w fun e w' => e = .returned (.tuple #[.agg #[.slice none 0 0, .slice none 0 0, .slice none 0 0], .int .i64 60]) ∧ Below w.heap.size w w' := by
  have hen := fun W => node_Encode.calls none 0 [] none 0 [] none 0 [] 1 ⟨#[0]⟩ 0 W (C_nil _ _) (Nat.le_refl _) (C_nil _ _) (Nat.le_refl _) (C_nil _ _) (Nat.le_refl _) (by decide +kernel)
  have HE := Lib.hid hen
  clear hen
  go_enter Try.func31, Try.ntmps31
  go_wp2
  refine wp_scope_straight ?_
  go_wp2_with fail
  have k0 : Blk (((w.alloc (.cells #[.slice none 0 0, .slice none 0 0, .slice none 0 0] 26)).alloc (.cells #[.string ⟨#[]⟩, .bool false] 93)).alloc (.cells #[.slice none 0 0, .slice none 0 0, .slice none 0 0] 26)) w.heap.size 26 #[.slice none 0 0, .slice none 0 0, .slice none 0 0] := ((Blk.new w _ _).alloc _).alloc _
  have k1 : Blk (((w.alloc (.cells #[.slice none 0 0, .slice none 0 0, .slice none 0 0] 26)).alloc (.cells #[.string ⟨#[]⟩, .bool false] 93)).alloc (.cells #[.slice none 0 0, .slice none 0 0, .slice none 0 0] 26)) (w.heap.size + 1) 93 #[.string ⟨#[]⟩, .bool false] := by
    have := (Blk.new (w.alloc (.cells #[.slice none 0 0, .slice none 0 0, .slice none 0 0] 26)) 93 #[.string ⟨#[]⟩, .bool false]).alloc (.cells #[.slice none 0 0, .slice none 0 0, .slice none 0 0] 26)
    rw [World.size_alloc] at this
    exact this
  have k2 : Blk (((w.alloc (.cells #[.slice none 0 0, .slice none 0 0, .slice none 0 0] 26)).alloc (.cells #[.string ⟨#[]⟩, .bool false] 93)).alloc (.cells #[.slice none 0 0, .slice none 0 0, .slice none 0 0] 26)) (w.heap.size + 1 + 1) 26 #[.slice none 0 0, .slice none 0 0, .slice none 0 0] := by
    have := Blk.new ((w.alloc (.cells #[.slice none 0 0, .slice none 0 0, .slice none 0 0] 26)).alloc (.cells #[.string ⟨#[]⟩, .bool false] 93)) 26 #[.slice none 0 0, .slice none 0 0, .slice none 0 0]
    rw [World.size_alloc, World.size_alloc] at this
    exact this
  have kB : Below w.heap.size w (((w.alloc (.cells #[.slice none 0 0, .slice none 0 0, .slice none 0 0] 26)).alloc (.cells #[.string ⟨#[]⟩, .bool false] 93)).alloc (.cells #[.slice none 0 0, .slice none 0 0, .slice none 0 0] 26)) := bl_al (bl_al (bl_al (bl_re w) _) _) _
  generalize (((w.alloc (.cells #[.slice none 0 0, .slice none 0 0, .slice none 0 0] 26)).alloc (.cells #[.string ⟨#[]⟩, .bool false] 93)).alloc (.cells #[.slice none 0 0, .slice none 0 0, .slice none 0 0] 26)) = W0 at *
  refine (take_none _ W0 k1).mono ?_
  rintro e w1 ⟨rfl, rfl⟩
  have j0 := k0.far (p := ⟨w.heap.size + 1, 1, none⟩) (by simp) (.bool true)
  have j1 := k1.set_ 1 (.bool true)
  have j2 := k2.far (p := ⟨w.heap.size + 1, 1, none⟩) (by simp) (.bool true)
  have jB := bl_st kB (p := ⟨w.heap.size + 1, 1, none⟩) (by simp) (.bool true)
  generalize W0.setCell ⟨w.heap.size + 1, 1, none⟩ (.bool true) = W1 at *
  have c0 : W1.cell? ⟨w.heap.size + 1 + 1, 0, none⟩ = some (.slice none 0 0) := j2.cell 0
  have c1 : W1.cell? ⟨w.heap.size + 1 + 1, 1, none⟩ = some (.slice none 0 0) := j2.cell 1
  have c2 : W1.cell? ⟨w.heap.size + 1 + 1, 2, none⟩ = some (.slice none 0 0) := j2.cell 2
  have HJ := Lib.hid (And.intro j0 (And.intro j1 jB))
  clear k0 k1 k2 kB j0 j1 j2 jB
  have hd : decide ((0 : Int) < wrap64 (((⟨#[0]⟩ : ByteArray)[0]'(by decide)).toNat : Int)) = false := by decide +kernel
  go_wp2_with fail
  refine wp_label ?_
  go_wp2_with fail
  refine wp_loop_rounds 1 ?_
  rw [rounds_succ]
  go_wp2_with fail
  refine (HE.out W1).mono ?_
  rintro e w2 ⟨rfl, hb2⟩
  have z0 : Blk w2 w.heap.size 26 #[.slice none 0 0, .slice none 0 0, .slice none 0 0] := HJ.out.1.below hb2 HJ.out.1.lt
  have z1 : Blk w2 (w.heap.size + 1) 93 #[.string ⟨#[]⟩, .bool true] := HJ.out.2.1.below hb2 HJ.out.2.1.lt
  have e1 : w2.cell? ⟨w.heap.size + 1, 1, none⟩ = some (.bool true) := z1.cell 1
  have y0 : w2.cell? ⟨w.heap.size, 0, none⟩ = some (.slice none 0 0) := z0.cell 0
  have y1 : w2.cell? ⟨w.heap.size, 1, none⟩ = some (.slice none 0 0) := z0.cell 1
  have y2 : w2.cell? ⟨w.heap.size, 2, none⟩ = some (.slice none 0 0) := z0.cell 2
  have x0 := z0.frozen 0
  have x1 := z0.frozen 1
  have x2 := z0.frozen 2
  have HZ := Lib.hid (And.intro z0 (bl_tr HJ.out.2.2 hb2))
  clear z0 z1 hb2 hd
  go_wp2
  rw [Exit.noGoto_ret]
  exact post_node rfl (((HZ.out.1.set_ 0 _).set_ 1 _).set_ 2 _) rfl rfl rfl ⟨rfl, bl_st (bl_st (bl_st HZ.out.2 (by simp) _) (by simp) _) (by simp) _⟩

theorem node_Decode.calls (a0 : Int) (a1 : ByteArray) (r1 : List S39) (r2 : List ByteArray) (r3 : List Int) (r4 : Int) (w : World) (h : node_Decode.f a0 a1 = some (r1, r2, r3, r4)) :
    Calls Try.prog 31 #[.int .i64 a0, .string a1] w fun e w' => ∃ v0_ v1_ v2_ : Value, e = .returned (.tuple #[.agg #[v0_, v1_, v2_], .int .i64 r4]) ∧ Kd.R k39 39 w' w.heap.size (fun _ => True) v0_ r1 ∧ Kd.R Kd.string 9 w' w.heap.size (fun _ => True) v1_ r2 ∧ Kd.R (Kd.int .u32) 65 w' w.heap.size (fun _ => True) v2_ r3 ∧ Below w.heap.size w w' := by
  unfold node_Decode.f at h
  split at h
  · rename_i hc
    simp only [Option.some.injEq, Prod.mk.injEq] at h
    obtain ⟨rfl, rfl, rfl, rfl⟩ := h
    obtain ⟨rfl, hs⟩ := hc
    obtain rfl : a1 = ⟨#[]⟩ := ba_ext (List.eq_nil_of_length_eq_zero (by rw [ba_length]; exact hs))
    refine (decode_none w).mono ?_
    rintro e w' ⟨rfl, hb⟩
    exact ⟨_, _, _, rfl, Kd.R_nil _ _ _ _ _, Kd.R_nil _ _ _ _ _, Kd.R_nil _ _ _ _ _, hb⟩
  · cases h
end Go.Proofs.Ytejempihaknplaa.G
