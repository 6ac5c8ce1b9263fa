/- parts of package node, and the iterator that it hands back: it yields a node's parts in their order. Condition: as many keys as kids but one, at the least. -/
import Derived.Test.YtejempihaknplaaNdS
import Derived.Test.YtejempihaknplaaConv
namespace Go.Proofs.Ytejempihaknplaa.G
open Go.RowKit Go.Shelf Go.Proofs.YtejempihaknplaaW.PrintWords
set_option linter.unusedVariables false
attribute [local go_sem] Oper.semAt_some

/-- The cells of a node. -/
def nodeC (A0 : Option Addr) (c0 : Nat) (l0 : List S39) (A1 : Option Addr) (c1 : Nat) (l1 : List ByteArray) (A2 : Option Addr) (c2 : Nat) (l2 : List Int) : Array Value := #[.slice A0 l0.length c0, .slice A1 l1.length c1, .slice A2 l2.length c2]
/-- The parts of a node, one by one. -/
def partK (ks : List ByteArray) (i : Nat) : ByteArray := if i = 0 then ⟨#[]⟩ else ks.getD (i - 1) ⟨#[]⟩
def partsL (ps : List S39) (ks : List ByteArray) (kd : List Int) : List (ByteArray × ByteArray × Int) := ps.map (fun p => (p.f0, p.f1, 0)) ++ kd.zipIdx.map (fun x => (partK ks x.2, ⟨#[]⟩, x.1))
def partV (q : ByteArray × ByteArray × Int) : Array Value := #[.string q.1, .string q.2.1, .int .u32 q.2.2]
theorem partsL_length (ps : List S39) (ks : List ByteArray) (kd : List Int) : (partsL ps ks kd).length = ps.length + kd.length := by simp [partsL]
theorem partsL_pair (ps : List S39) (ks : List ByteArray) (kd : List Int) (k : Nat) (h : k < ps.length) : (partsL ps ks kd)[k]? = some (ps[k].f0, ps[k].f1, 0) := by
  unfold partsL
  rw [List.getElem?_append_left (by simpa using h), List.getElem?_map, List.getElem?_eq_getElem h]
  rfl
theorem partsL_kid (ps : List S39) (ks : List ByteArray) (kd : List Int) (k : Nat) (h : k < kd.length) : (partsL ps ks kd)[ps.length + k]? = some (partK ks k, ⟨#[]⟩, kd[k]) := by
  unfold partsL
  rw [List.getElem?_append_right (by simp), List.length_map, Nat.add_sub_cancel_left, List.getElem?_map, List.getElem?_zipIdx, List.getElem?_eq_getElem h]
  simp

theorem rd_nat (l : List Int) (k : Nat) (h : k < l.length) : rd l (k : Int) = l[k] := by
  unfold rd
  rw [Int.toNat_natCast, List.getD_eq_getElem?_getD, List.getElem?_eq_getElem h]
  rfl
set_option maxHeartbeats 400000 in
theorem parts_any (A0 : Option Addr) (c0 : Nat) (l0 : List S39) (A1 : Option Addr) (c1 : Nat) (l1 : List ByteArray) (A2 : Option Addr) (c2 : Nat) (l2 : List Int) (w : World) :
    Calls Try.prog 33 #[.agg #[.slice A0 l0.length c0, .slice A1 l1.length c1, .slice A2 l2.length c2]] w fun e w' =>
      e = .returned (.func (.func 60) #[] #[.pointer (some ⟨w.heap.size, 0, none⟩)]) ∧ w.alloc (.cells #[.slice A0 l0.length c0, .slice A1 l1.length c1, .slice A2 l2.length c2] 26) = w' := by
  go_enter Try.func33, Try.ntmps33
  go_wp2
  go_ret
  exact ⟨rfl, rfl⟩

set_option maxRecDepth 100000 in
set_option maxHeartbeats 2000000 in
theorem parts1_in (m l Bn : Nat) (A0 : Option Addr) (c0 : Nat) (l0 : List S39) (A1 : Option Addr) (c1 : Nat) (l1 : List ByteArray) (A2 : Option Addr) (c2 : Nat) (l2 : List Int) (w0 : World)
    (hr0 : Kd.C k39 w0 A0 l0.length l0) (hr1 : Kd.C Kd.string w0 A1 l1.length l1) (hr2 : Kd.C (Kd.int .u32) w0 A2 l2.length l2) (hk : l2.length ≤ l1.length + 1)
    (J : Nat → World → Prop) (hJa : ∀ k W o, J k W → J k (W.alloc o)) (hJB : ∀ k W, J k W → Below w0.heap.size w0 W)
    (hJn : ∀ k W, J k W → Blk W Bn 26 #[.slice A0 l0.length c0, .slice A1 l1.length c1, .slice A2 l2.length c2])
    (hY : ∀ k W q, (partsL l0 l1 l2)[k]? = some q → J k W → YieldAt Fence.wide (m - 1) Try.prog l #[.agg (partV q)] W fun e W' => e = .returned (.bool true) ∧ J (k + 1) W')
    (W : World) (h0 : J 0 W) :
    CallsIn Fence.wide m Try.prog 60 #[.func (.yield l) #[] #[], .pointer (some ⟨Bn, 0, none⟩)] W fun e W' => (∃ v, e = .returned v) ∧ J (l0.length + l2.length) W' := by
  have hB0 : W.cell? ⟨Bn, 0, none⟩ = some (.slice A0 l0.length c0) := (hJn _ _ h0).cell 0
  have hb0 := hr0.2.1
  have hb2 := hr2.2.1
  have HR := Lib.hid (And.intro hr0 (And.intro hr1 (And.intro hr2 hk)))
  have HJ := Lib.hid (And.intro hJa (And.intro hJB hJn))
  have HY := Lib.hid hY
  clear hr0 hr1 hr2 hk hJa hJB hJn hY
  refine callsIn_of_wp Try.func60 rfl trivial ?_ rfl
  simp only [Try.ntmps60, List.size_toArray, List.length_cons, List.length_nil, Nat.reduceAdd, Nat.reduceSub, Array.replicate_succ, Array.replicate_zero, List.push_toArray, List.append_toArray, List.nil_append, List.cons_append]
  gi_wp2
  gi_loopw [11] (fun i wr => ∃ k : Nat, k ≤ l0.length ∧ i = .int .i64 k ∧ J k wr) (fun i _ => l0.length - (intOf i).toNat)
  case atStart => exact ⟨0, Nat.zero_le _, rfl, h0⟩
  case round =>
    obtain ⟨k, hkl, rfl, hJk⟩ := hrel
    clear hB0
    by_cases hlt : k < l0.length
    · obtain ⟨ad, rfl, x0, x1⟩ := at_T39 HR.out.1 (k : Int) (by omega) (by omega)
      have q0 := (HJ.out.2.1 _ _ hJk).cell (World.block_lt_of_cell? w0 _ x0) |>.trans x0
      have q1 := (HJ.out.2.1 _ _ hJk).cell (World.block_lt_of_cell? w0 _ x1) |>.trans x1
      rw [rdT_nat l0 k hlt, Int.toNat_natCast] at q0 q1
      have hp := partsL_pair l0 l1 l2 k hlt
      obtain ⟨⟨k0, v0⟩, hp0⟩ : ∃ p, l0[k] = p := ⟨_, rfl⟩
      rw [hp0] at q0 q1 hp
      have hyy := HY.out k (wr.alloc (.cells #[.string k0, .string v0] 39)) _ hp (HJ.out.1 _ _ _ hJk)
      rw [show partV (k0, v0, 0) = #[.string k0, .string v0, .int .u32 0] from rfl] at hyy
      have HYY := Lib.hid hyy
      clear x0 x1 hp hp0 hyy hJk
      gi_wp2
      obtain ⟨fn, tmps, assign, body, hy, hR⟩ := HYY.out
      rw [hy, Oper.uponIn_round]
      refine ⟨fun h => (by cases h), hR.mono ?_⟩
      clear hy
      rintro e W3 ⟨rfl, hJ3⟩
      gi_wp2
      go_roundw
      case rel => exact ⟨k + 1, by omega, by go_num, hJ3⟩
      case measure => simp [intOf]; omega
    · obtain rfl : k = l0.length := by omega
      have hn := HJ.out.2.2 _ _ hJk
      have hB2 : wr.cell? ⟨Bn, 2, none⟩ = some (.slice A2 l2.length c2) := hn.cell 2
      obtain ⟨wo, hwo⟩ : ∃ wo : World, wo = wr := ⟨_, rfl⟩
      clear hlt hn
      gi_wp2
      gi_loopw [27] (fun i wr => ∃ k : Nat, k ≤ l2.length ∧ i = .int .i64 k ∧ J (l0.length + k) wr) (fun i _ => l2.length - (intOf i).toNat)
      case atStart => exact ⟨0, Nat.zero_le _, rfl, hJk⟩
      case round =>
        clear hB2 hwo wo hJk
        obtain ⟨k, hkl2, rfl, hJk⟩ := hrel
        by_cases hlt : k < l2.length
        · obtain ⟨ad, rfl, x0⟩ := Kd.at_int HR.out.2.2.1 (k : Int) (by omega) (by omega)
          have q0 := (HJ.out.2.1 _ _ hJk).cell (World.block_lt_of_cell? w0 _ x0) |>.trans x0
          rw [rd_nat l2 k hlt, Int.toNat_natCast] at q0
          have hp := partsL_kid l0 l1 l2 k hlt
          obtain ⟨d, hd⟩ : ∃ d, l2[k] = d := ⟨_, rfl⟩
          rw [hd] at q0 hp
          by_cases hk0 : k = 0
          · rw [show partK l1 k = ⟨#[]⟩ by rw [hk0]; rfl] at hp
            have hyy := HY.out _ wr _ hp hJk
            rw [show partV ((⟨#[]⟩ : ByteArray), (⟨#[]⟩ : ByteArray), d) = #[.string ⟨#[]⟩, .string ⟨#[]⟩, .int .u32 d] from rfl] at hyy
            have HYY := Lib.hid hyy
            have i1 : ¬ (0 : Int) < (k : Int) := by omega
            clear x0 hp hyy hJk hd hk0
            gi_wp2
            obtain ⟨fn, tmps, assign, body, hy, hR⟩ := HYY.out
            rw [hy, Oper.uponIn_round]
            refine ⟨fun h => (by cases h), hR.mono ?_⟩
            clear hy
            rintro e W3 ⟨rfl, hJ3⟩
            gi_wp2
            go_roundw
            case rel => exact ⟨k + 1, by omega, by go_num, hJ3⟩
            case measure => simp [intOf]; omega
          · obtain ⟨j, hjk⟩ : ∃ j, j = k - 1 := ⟨_, rfl⟩
            have hj : j < l1.length := by have := HR.out.2.2.2; omega
            obtain ⟨ad1, hA1, y0⟩ := Kd.at_string HR.out.2.1 (j : Int) (by omega) (by omega)
            have q1 := (HJ.out.2.1 _ _ hJk).cell (World.block_lt_of_cell? w0 _ y0) |>.trans y0
            rw [rdOf_nat l1 j hj, Int.toNat_natCast] at q1
            have hn := HJ.out.2.2 _ _ hJk
            have hB1 : wr.cell? ⟨Bn, 1, none⟩ = some (.slice A1 l1.length c1) := hn.cell 1
            rw [show partK l1 k = l1[j] by unfold partK; rw [if_neg hk0, ← hjk, List.getD_eq_getElem?_getD, List.getElem?_eq_getElem hj]; rfl] at hp
            obtain ⟨s, hs⟩ : ∃ s, l1[j] = s := ⟨_, rfl⟩
            rw [hs] at q1 hp
            have hyy := HY.out _ wr _ hp hJk
            rw [show partV (s, (⟨#[]⟩ : ByteArray), d) = #[.string s, .string ⟨#[]⟩, .int .u32 d] from rfl] at hyy
            have HYY := Lib.hid hyy
            subst hA1
            have hb1 : l1.length ≤ 9223372036854775807 := HR.out.2.1.2.1
            have i1 : (0 : Int) < (k : Int) := by omega
            have i3 : (k : Int) ≤ (l1.length : Int) := by omega
            rw [hjk] at q1
            clear x0 y0 hp hyy hJk hd hn hs hk0 hjk hj
            gi_wp2
            obtain ⟨fn, tmps, assign, body, hy, hR⟩ := HYY.out
            rw [hy, Oper.uponIn_round]
            refine ⟨fun h => (by cases h), hR.mono ?_⟩
            clear hy
            rintro e W3 ⟨rfl, hJ3⟩
            gi_wp2
            go_roundw
            case rel => exact ⟨k + 1, by omega, by go_num, hJ3⟩
            case measure => simp [intOf]; omega
        · obtain rfl : k = l2.length := by omega
          gi_wp2
          go_end0
          exact ⟨⟨_, rfl⟩, hJk⟩
end Go.Proofs.Ytejempihaknplaa.G
