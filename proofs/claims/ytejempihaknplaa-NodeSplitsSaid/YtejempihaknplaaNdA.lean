/- What the printed functions of package node answer, as plain lists: keys, isLeaf, Right, BinarySearch, Place. Condition: at most 100000 elements in each list. parts of package node, and the iterator that it hands back: it yields a node's parts in their order. Condition: as many keys as kids but one, at the least. -/
import Derived.Test.YtejempihaknplaaNdS
import Derived.Test.YtejempihaknplaaGK
import Derived.Test.YtejempihaknplaaNdM
namespace Go.Proofs.Ytejempihaknplaa.G
open Go.RowKit Go.Proofs.YtejempihaknplaaW.PrintWords

/-! ### keys -/
theorem keys_l0 (ps : List S39) (hl : ps.length ≤ 1000000) : ∀ (d k i : Nat) (acc : List ByteArray), acc.length ≤ 1000000 + i → i + d = ps.length → d < k → node_keys.l0 k acc ps (ps.length : Int) (i : Int) = some (acc ++ (ps.drop i).map (·.f0))
  | 0, k, i, acc, ha, h, hk => by
    obtain ⟨k, rfl⟩ : ∃ m, k = m + 1 := ⟨k - 1, by omega⟩
    simp only [node_keys.l0]
    rw [if_neg (by omega), List.drop_of_length_le (by omega)]
    simp
  | d + 1, k, i, acc, ha, h, hk => by
    obtain ⟨k, rfl⟩ : ∃ m, k = m + 1 := ⟨k - 1, by omega⟩
    have hi : i < ps.length := by omega
    have ih := keys_l0 ps hl d k (i + 1) (acc ++ [ps[i].f0]) (by simp; omega) (by omega) (by omega)
    simp only [node_keys.l0]
    rw [if_pos (by omega), if_pos (by omega), if_pos (by omega), if_pos (by omega), rdT_nat ps i hi, w_add i (by omega), ih, List.drop_eq_getElem_cons hi, List.map_cons, List.append_assoc]
    rfl
theorem keys_eq (ps : List S39) (ks : List ByteArray) (kd : List Int) (h : smallB ps ks kd = true) (k : Nat) (hk : ps.length < k) : node_keys.f k ps ks kd = some (ks ++ ps.map (·.f0)) := by
  simp only [smallB, Bool.and_eq_true, decide_eq_true_eq] at h
  unfold node_keys.f slices_Clone_string_string.f
  rw [if_pos (by omega), Option.bind_some]
  have := keys_l0 ps (by omega) ps.length k 0 ks (by omega) (by omega) hk
  simpa using this

/-! ### isLeaf, Right -/
theorem isLeaf_l0 (ps : List S39) (ks : List ByteArray) (kd : List Int) (h : smallB ps ks kd = true) : ∀ (d k i : Nat), i + d = ps.length → d + 300002 < k →
    node_isLeaf.l0 k ps (ps.length : Int) (i : Int) ps ks kd = some ((ps.drop i).all (fun p => decide (p.f1.size ≤ 60)) && ((ks ++ ps.map (·.f0)).all kOk && risesB (ks ++ ps.map (·.f0))))
  | 0, k, i, hi, hk => by
    obtain ⟨k, rfl⟩ : ∃ m, k = m + 1 := ⟨k - 1, by omega⟩
    have hs := h
    simp only [smallB, Bool.and_eq_true, decide_eq_true_eq] at hs
    simp only [node_isLeaf.l0]
    rw [if_neg (by omega), keys_eq ps ks kd h k (by omega), Option.bind_some, isSize_eq _ _ _ (by simp; omega) k (by simp; omega), Option.bind_some, rise_eq _ (by simp; omega) k (by simp; omega), Option.bind_some, List.drop_of_length_le (by omega),
      show inB 1 24 = kOk from funext inB_key]
    cases (ks ++ ps.map (·.f0)).all kOk <;> simp
  | d + 1, k, i, hi, hk => by
    obtain ⟨k, rfl⟩ : ∃ m, k = m + 1 := ⟨k - 1, by omega⟩
    have ih := isLeaf_l0 ps ks kd h d k (i + 1) (by omega) (by omega)
    have hs := h
    simp only [smallB, Bool.and_eq_true, decide_eq_true_eq] at hs
    have hlt : i < ps.length := by omega
    simp only [node_isLeaf.l0]
    rw [if_pos (by omega), if_pos (by omega), if_pos (by omega), isSize_eq _ _ _ (by simp) k (by simp; omega), Option.bind_some, rdT_nat ps i hlt, w_add i (by omega), ih, List.drop_eq_getElem_cons hlt, List.all_cons, List.all_cons, List.all_nil, inB_value]
    cases decide (ps[i].f1.size ≤ 60) <;> simp
theorem isLeaf_eq (ps : List S39) (ks : List ByteArray) (kd : List Int) (h : smallB ps ks kd = true) (k : Nat) (hk : 400010 < k) : node_isLeaf.f k ps ks kd = some (leafB ps ks kd) := by
  have hs := h
  simp only [smallB, Bool.and_eq_true, decide_eq_true_eq] at hs
  obtain ⟨k, rfl⟩ : ∃ m, k = m + 1 := ⟨k - 1, by omega⟩
  have hw : wrap64 ((ks.length : Int) + (kd.length : Int)) = ((ks.length + kd.length : Nat) : Int) := by unfold wrap64; omega
  unfold node_isLeaf.f leafB
  rw [hw]
  by_cases h0 : ks.length + kd.length > 0
  · rw [if_pos (by omega)]
    simp only [node_isLeaf.j0, if_true]
    have : (ks.isEmpty && kd.isEmpty) = false := by
      cases ks with
      | nil => cases kd with
        | nil => simp at h0
        | cons _ _ => rfl
      | cons _ _ => rfl
    rw [this]
    simp
  · rw [if_neg (by omega)]
    obtain rfl : ks = [] := List.eq_nil_of_length_eq_zero (by omega)
    obtain rfl : kd = [] := List.eq_nil_of_length_eq_zero (by omega)
    simp only [node_isLeaf.j0]
    by_cases h1 : ps.length ≤ 255
    · rw [if_neg (by simp; omega)]
      have := isLeaf_l0 ps [] [] h ps.length k 0 (by omega) (by omega)
      rw [show ((0 : Nat) : Int) = 0 from rfl] at this
      rw [this]
      simp only [List.drop_zero, List.nil_append, List.isEmpty_nil, Bool.true_and, decide_eq_true h1]
      congr 1
      rw [Bool.eq_iff_iff]
      simp only [Bool.and_eq_true, List.all_eq_true, pOk, List.mem_map]
      constructor
      · rintro ⟨h2, h3, h4⟩
        exact ⟨fun x hx => ⟨h3 _ ⟨x, hx, rfl⟩, h2 x hx⟩, h4⟩
      · rintro ⟨h2, h3⟩
        exact ⟨fun x hx => (h2 x hx).2, fun y hy => by obtain ⟨x, hx, rfl⟩ := hy; exact (h2 x hx).1, h3⟩
    · rw [if_pos (by simp; omega)]
      simp [h1]
theorem right_eq (ps : List S39) (ks : List ByteArray) (kd : List Int) (h : smallB ps ks kd = true) (k : Nat) (hk : 400010 < k) : node_Right.f k ps ks kd = some (rightB ps ks kd) := by
  unfold node_Right.f rightB node_isBranch.f
  rw [isLeaf_eq ps ks kd h k hk, Option.bind_some, Option.bind_some]
  cases leafB ps ks kd <;> simp

/-! ### BinarySearch, Place -/
theorem isNaN_no (s : ByteArray) : slices_isNaN_string.f s = some false := by simp [slices_isNaN_string.f]
theorem less_eq (a b : ByteArray) : cmp_Less_string.f a b = some (blt a b) := by simp [cmp_Less_string.f, cmp_isNaN_string.f, blt]
theorem search_l0 (l : List ByteArray) (t : ByteArray) (hl : l.length ≤ 1000000) (hr : Rising l) : ∀ (d k i j : Nat), j - i ≤ d → i ≤ j → j ≤ l.length → (∀ q (hq : q < l.length), q < i → blt l[q] t = true) → (∀ q (hq : q < l.length), j ≤ q → blt l[q] t = false) → d < k →
    slices_BinarySearch_string_string.l0 k l t (l.length : Int) (i : Int) (j : Int) = some ((placeP l t : Int), decide (l[placeP l t]? = some t))
  | 0, k, i, j, h, hij, hj, h1, h2, hk => by
    obtain ⟨k, rfl⟩ : ∃ m, k = m + 1 := ⟨k - 1, by omega⟩
    obtain rfl : i = j := by omega
    have hp := placeP_unique hr t i (by omega) h1 h2
    subst hp
    simp only [slices_BinarySearch_string_string.l0]
    rw [if_neg (by omega)]
    by_cases hlt : placeP l t < l.length
    · rw [if_pos (by omega), if_pos (by omega), if_pos (by omega), rdOf_nat l _ hlt, List.getElem?_eq_getElem hlt]
      by_cases he : l[placeP l t].toList = t.toList
      · rw [if_pos he]
        simp [ba_eq he]
      · rw [if_neg he, isNaN_no, Option.bind_some, if_neg (by simp)]
        have : l[placeP l t] ≠ t := fun e => he (by rw [e])
        simp [this]
    · rw [if_neg (by omega), List.getElem?_eq_none (by omega)]
      simp
  | d + 1, k, i, j, h, hij, hj, h1, h2, hk => by
    obtain ⟨k, rfl⟩ : ∃ m, k = m + 1 := ⟨k - 1, by omega⟩
    by_cases hlt : i < j
    · have hm1 : (i + j) / 2 < l.length := by omega
      simp only [slices_BinarySearch_string_string.l0]
      rw [if_pos (by omega), w_half i j (by omega) (by omega), if_pos (by omega), if_pos (by omega), rdOf_nat l _ hm1, less_eq, Option.bind_some, w_add _ (by omega)]
      have hs := rising_split hr t
      cases hb : blt l[(i + j) / 2] t with
      | true =>
        rw [if_pos rfl]
        refine search_l0 l t hl hr d k _ _ (by omega) (by omega) hj (fun q hq hqi => ?_) h2 (by omega)
        refine hs.1 q hq ?_
        rcases Nat.lt_or_ge q (placeP l t) with h | h
        · exact h
        · have := hs.2 ((i + j) / 2) hm1 (by omega)
          rw [hb] at this
          cases this
      | false =>
        rw [if_neg (by simp)]
        refine search_l0 l t hl hr d k _ _ (by omega) (by omega) (by omega) h1 (fun q hq hqi => ?_) (by omega)
        refine hs.2 q hq ?_
        rcases Nat.lt_or_ge q (placeP l t) with h | h
        · have := hs.1 ((i + j) / 2) hm1 (by omega)
          rw [hb] at this
          cases this
        · exact h
    · exact search_l0 l t hl hr 0 (k + 1) i j (by omega) hij hj h1 h2 (by omega)
theorem search_eq (l : List ByteArray) (t : ByteArray) (hl : l.length ≤ 1000000) (hr : Rising l) (k : Nat) (hk : l.length < k) :
    slices_BinarySearch_string_string.f k l t = some ((placeP l t : Int), decide (l[placeP l t]? = some t)) := by
  unfold slices_BinarySearch_string_string.f
  have := search_l0 l t hl hr l.length k 0 l.length (by omega) (by omega) (by omega) (fun q hq h => by omega) (fun q hq h => by omega) hk
  exact this
/-- A key's place in a node. -/
def placeN (ps : List S39) (ks : List ByteArray) (kd : List Int) (t : ByteArray) : Nat :=
  if rightB ps ks kd = true then placeP (ks ++ ps.map (·.f0)) t + (if decide ((ks ++ ps.map (·.f0))[placeP (ks ++ ps.map (·.f0)) t]? = some t) && decide (0 < kd.length) then 1 else 0) else 0
theorem right_rising {ps : List S39} {ks : List ByteArray} {kd : List Int} (h : rightB ps ks kd = true) : Rising (ks ++ ps.map (·.f0)) := by
  simp only [rightB, leafB, branchB, Bool.or_eq_true, Bool.and_eq_true, List.isEmpty_iff] at h
  rcases h with ⟨⟨⟨⟨rfl, _⟩, _⟩, _⟩, h⟩ | ⟨⟨⟨⟨⟨⟨rfl, _⟩, _⟩, _⟩, _⟩, _⟩, h⟩
  · exact (rises_iff _).1 h
  · rw [List.map_nil, List.append_nil]; exact (rises_iff _).1 h
theorem place_eq (ps : List S39) (ks : List ByteArray) (kd : List Int) (t : ByteArray) (h : smallB ps ks kd = true) (k : Nat) (hk : 400010 < k) : node_Place.f k ps ks kd t = some (placeN ps ks kd t : Int) := by
  have hs := h
  simp only [smallB, Bool.and_eq_true, decide_eq_true_eq] at hs
  unfold node_Place.f placeN
  rw [right_eq ps ks kd h k hk, Option.bind_some]
  cases hr : rightB ps ks kd with
  | false => simp
  | true =>
    have hp := placeP_le (ks ++ ps.map (·.f0)) t
    rw [if_pos rfl, if_pos rfl, keys_eq ps ks kd h k (by omega), Option.bind_some, search_eq _ t (by simp; omega) (right_rising hr) k (by simp; omega), Option.bind_some]
    simp only [List.length_append, List.length_map] at hp
    cases hd : decide ((ks ++ ps.map (·.f0))[placeP (ks ++ ps.map (·.f0)) t]? = some t) with
    | false => simp
    | true =>
      by_cases hk0 : 0 < kd.length
      · rw [if_pos rfl, if_pos (by omega), w_add _ (by omega)]
        simp [hk0]
      · rw [if_pos rfl, if_neg (by omega)]
        simp [hk0]
end Go.Proofs.Ytejempihaknplaa.G

namespace Go.Proofs.Ytejempihaknplaa.G
open Go.RowKit Go.Shelf Go.Proofs.YtejempihaknplaaW.PrintWords
set_option linter.unusedVariables false
attribute [local go_sem] Oper.semAt_some

/-- The cells of a node. -/
def nodeC (A0 : Option Addr) (c0 : Nat) (l0 : List S39) (A1 : Option Addr) (c1 : Nat) (l1 : List ByteArray) (A2 : Option Addr) (c2 : Nat) (l2 : List Int) : Array Value := #[.slice A0 l0.length c0, .slice A1 l1.length c1, .slice A2 l2.length c2]
/-- The parts of a node, one by one. -/
def partK (ks : List ByteArray) (i : Nat) : ByteArray := if i = 0 then ⟨#[]⟩ else ks.getD (i - 1) ⟨#[]⟩
def partsL (ps : List S39) (ks : List ByteArray) (kd : List Int) : List (ByteArray × ByteArray × Int) := ps.map (fun p => (p.f0, p.f1, 0)) ++ kd.zipIdx.map (fun x => (partK ks x.2, ⟨#[]⟩, x.1))
def partV (q : ByteArray × ByteArray × Int) : Array Value := #[.string q.1, .string q.2.1, .int .u32 q.2.2]
theorem partsL_length (ps : List S39) (ks : List ByteArray) (kd : List Int) : (partsL ps ks kd).length = ps.length + kd.length := by simp [partsL]
theorem partsL_pair (ps : List S39) (ks : List ByteArray) (kd : List Int) (k : Nat) (h : k < ps.length) : (partsL ps ks kd)[k]? = some (ps[k].f0, ps[k].f1, 0) := by
  unfold partsL
  rw [List.getElem?_append_left (by simpa using h), List.getElem?_map, List.getElem?_eq_getElem h]
  rfl
theorem partsL_kid (ps : List S39) (ks : List ByteArray) (kd : List Int) (k : Nat) (h : k < kd.length) : (partsL ps ks kd)[ps.length + k]? = some (partK ks k, ⟨#[]⟩, kd[k]) := by
  unfold partsL
  rw [List.getElem?_append_right (by simp), List.length_map, Nat.add_sub_cancel_left, List.getElem?_map, List.getElem?_zipIdx, List.getElem?_eq_getElem h]
  simp

set_option maxHeartbeats 400000 in
theorem parts_any (A0 : Option Addr) (c0 : Nat) (l0 : List S39) (A1 : Option Addr) (c1 : Nat) (l1 : List ByteArray) (A2 : Option Addr) (c2 : Nat) (l2 : List Int) (w : World) :
    Calls Try.prog 33 #[.agg #[.slice A0 l0.length c0, .slice A1 l1.length c1, .slice A2 l2.length c2]] w fun e w' =>
      e = .returned (.func (.func 60) #[] #[.pointer (some ⟨w.heap.size, 0, none⟩)]) ∧ w.alloc (.cells #[.slice A0 l0.length c0, .slice A1 l1.length c1, .slice A2 l2.length c2] 26) = w' := by
  go_enter Try.func33, Try.ntmps33
  go_wp2
  go_ret
  exact ⟨rfl, rfl⟩

set_option maxRecDepth 100000 in
set_option maxHeartbeats 2000000 in
theorem parts1_in (m l Bn : Nat) (A0 : Option Addr) (c0 : Nat) (l0 : List S39) (A1 : Option Addr) (c1 : Nat) (l1 : List ByteArray) (A2 : Option Addr) (c2 : Nat) (l2 : List Int) (w0 : World)
    (hr0 : Kd.C k39 w0 A0 l0.length l0) (hr1 : Kd.C Kd.string w0 A1 l1.length l1) (hr2 : Kd.C (Kd.int .u32) w0 A2 l2.length l2) (hk : l2.length ≤ l1.length + 1)
    (J : Nat → World → Prop) (hJa : ∀ k W o, J k W → J k (W.alloc o)) (hJB : ∀ k W, J k W → Below w0.heap.size w0 W)
    (hJn : ∀ k W, J k W → Blk W Bn 26 #[.slice A0 l0.length c0, .slice A1 l1.length c1, .slice A2 l2.length c2])
    (hY : ∀ k W q, (partsL l0 l1 l2)[k]? = some q → J k W → YieldAt Fence.wide (m - 1) Try.prog l #[.agg (partV q)] W fun e W' => e = .returned (.bool true) ∧ J (k + 1) W')
    (W : World) (h0 : J 0 W) :
    CallsIn Fence.wide m Try.prog 60 #[.func (.yield l) #[] #[], .pointer (some ⟨Bn, 0, none⟩)] W fun e W' => (∃ v, e = .returned v) ∧ J (l0.length + l2.length) W' := by
  have hB0 : W.cell? ⟨Bn, 0, none⟩ = some (.slice A0 l0.length c0) := (hJn _ _ h0).cell 0
  have hb0 := hr0.2.1
  have hb2 := hr2.2.1
  have HR := Lib.hid (And.intro hr0 (And.intro hr1 (And.intro hr2 hk)))
  have HJ := Lib.hid (And.intro hJa (And.intro hJB hJn))
  have HY := Lib.hid hY
  clear hr0 hr1 hr2 hk hJa hJB hJn hY
  refine callsIn_of_wp Try.func60 rfl trivial ?_ rfl
  simp only [Try.ntmps60, List.size_toArray, List.length_cons, List.length_nil, Nat.reduceAdd, Nat.reduceSub, Array.replicate_succ, Array.replicate_zero, List.push_toArray, List.append_toArray, List.nil_append, List.cons_append]
  gi_wp2
  gi_loopw [11] (fun i wr => ∃ k : Nat, k ≤ l0.length ∧ i = .int .i64 k ∧ J k wr) (fun i _ => l0.length - (intOf i).toNat)
  case atStart => exact ⟨0, Nat.zero_le _, rfl, h0⟩
  case round =>
    obtain ⟨k, hkl, rfl, hJk⟩ := hrel
    clear hB0
    by_cases hlt : k < l0.length
    · obtain ⟨ad, rfl, x0, x1⟩ := at_T39 HR.out.1 (k : Int) (by omega) (by omega)
      have q0 := (HJ.out.2.1 _ _ hJk).cell (World.block_lt_of_cell? w0 _ x0) |>.trans x0
      have q1 := (HJ.out.2.1 _ _ hJk).cell (World.block_lt_of_cell? w0 _ x1) |>.trans x1
      rw [rdT_nat l0 k hlt, Int.toNat_natCast] at q0 q1
      have hp := partsL_pair l0 l1 l2 k hlt
      obtain ⟨⟨k0, v0⟩, hp0⟩ : ∃ p, l0[k] = p := ⟨_, rfl⟩
      rw [hp0] at q0 q1 hp
      have hyy := HY.out k (wr.alloc (.cells #[.string k0, .string v0] 39)) _ hp (HJ.out.1 _ _ _ hJk)
      rw [show partV (k0, v0, 0) = #[.string k0, .string v0, .int .u32 0] from rfl] at hyy
      have HYY := Lib.hid hyy
      clear x0 x1 hp hp0 hyy hJk
      gi_wp2
      obtain ⟨fn, tmps, assign, body, hy, hR⟩ := HYY.out
      rw [hy, Oper.uponIn_round]
      refine ⟨fun h => (by cases h), hR.mono ?_⟩
      clear hy
      rintro e W3 ⟨rfl, hJ3⟩
      gi_wp2
      go_roundw
      case rel => exact ⟨k + 1, by omega, by go_num, hJ3⟩
      case measure => simp [intOf]; omega
    · obtain rfl : k = l0.length := by omega
      have hn := HJ.out.2.2 _ _ hJk
      have hB2 : wr.cell? ⟨Bn, 2, none⟩ = some (.slice A2 l2.length c2) := hn.cell 2
      obtain ⟨wo, hwo⟩ : ∃ wo : World, wo = wr := ⟨_, rfl⟩
      clear hlt hn
      gi_wp2
      gi_loopw [27] (fun i wr => ∃ k : Nat, k ≤ l2.length ∧ i = .int .i64 k ∧ J (l0.length + k) wr) (fun i _ => l2.length - (intOf i).toNat)
      case atStart => exact ⟨0, Nat.zero_le _, rfl, hJk⟩
      case round =>
        clear hB2 hwo wo hJk
        obtain ⟨k, hkl2, rfl, hJk⟩ := hrel
        by_cases hlt : k < l2.length
        · obtain ⟨ad, rfl, x0⟩ := Kd.at_int HR.out.2.2.1 (k : Int) (by omega) (by omega)
          have q0 := (HJ.out.2.1 _ _ hJk).cell (World.block_lt_of_cell? w0 _ x0) |>.trans x0
          rw [rd_nat l2 k hlt, Int.toNat_natCast] at q0
          have hp := partsL_kid l0 l1 l2 k hlt
          obtain ⟨d, hd⟩ : ∃ d, l2[k] = d := ⟨_, rfl⟩
          rw [hd] at q0 hp
          by_cases hk0 : k = 0
          · rw [show partK l1 k = ⟨#[]⟩ by rw [hk0]; rfl] at hp
            have hyy := HY.out _ wr _ hp hJk
            rw [show partV ((⟨#[]⟩ : ByteArray), (⟨#[]⟩ : ByteArray), d) = #[.string ⟨#[]⟩, .string ⟨#[]⟩, .int .u32 d] from rfl] at hyy
            have HYY := Lib.hid hyy
            have i1 : ¬ (0 : Int) < (k : Int) := by omega
            clear x0 hp hyy hJk hd hk0
            gi_wp2
            obtain ⟨fn, tmps, assign, body, hy, hR⟩ := HYY.out
            rw [hy, Oper.uponIn_round]
            refine ⟨fun h => (by cases h), hR.mono ?_⟩
            clear hy
            rintro e W3 ⟨rfl, hJ3⟩
            gi_wp2
            go_roundw
            case rel => exact ⟨k + 1, by omega, by go_num, hJ3⟩
            case measure => simp [intOf]; omega
          · obtain ⟨j, hjk⟩ : ∃ j, j = k - 1 := ⟨_, rfl⟩
            have hj : j < l1.length := by have := HR.out.2.2.2; omega
            obtain ⟨ad1, hA1, y0⟩ := Kd.at_string HR.out.2.1 (j : Int) (by omega) (by omega)
            have q1 := (HJ.out.2.1 _ _ hJk).cell (World.block_lt_of_cell? w0 _ y0) |>.trans y0
            rw [rdOf_nat l1 j hj, Int.toNat_natCast] at q1
            have hn := HJ.out.2.2 _ _ hJk
            have hB1 : wr.cell? ⟨Bn, 1, none⟩ = some (.slice A1 l1.length c1) := hn.cell 1
            rw [show partK l1 k = l1[j] by unfold partK; rw [if_neg hk0, ← hjk, List.getD_eq_getElem?_getD, List.getElem?_eq_getElem hj]; rfl] at hp
            obtain ⟨s, hs⟩ : ∃ s, l1[j] = s := ⟨_, rfl⟩
            rw [hs] at q1 hp
            have hyy := HY.out _ wr _ hp hJk
            rw [show partV (s, (⟨#[]⟩ : ByteArray), d) = #[.string s, .string ⟨#[]⟩, .int .u32 d] from rfl] at hyy
            have HYY := Lib.hid hyy
            subst hA1
            have hb1 : l1.length ≤ 9223372036854775807 := HR.out.2.1.2.1
            have i1 : (0 : Int) < (k : Int) := by omega
            have i3 : (k : Int) ≤ (l1.length : Int) := by omega
            rw [hjk] at q1
            clear x0 y0 hp hyy hJk hd hn hs hk0 hjk hj
            gi_wp2
            obtain ⟨fn, tmps, assign, body, hy, hR⟩ := HYY.out
            rw [hy, Oper.uponIn_round]
            refine ⟨fun h => (by cases h), hR.mono ?_⟩
            clear hy
            rintro e W3 ⟨rfl, hJ3⟩
            gi_wp2
            go_roundw
            case rel => exact ⟨k + 1, by omega, by go_num, hJ3⟩
            case measure => simp [intOf]; omega
        · obtain rfl : k = l2.length := by omega
          gi_wp2
          go_end0
          exact ⟨⟨_, rfl⟩, hJk⟩
end Go.Proofs.Ytejempihaknplaa.G
