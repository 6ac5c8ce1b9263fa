/- Put of package node: a pair put into a leaf. Whatever lay lies as it lay. Condition: at most 100000 elements in each list. -/
import Derived.Test.YtejempihaknplaaNdA
import Derived.Test.YtejempihaknplaaNdM
import Derived.Deep.RegionLawGrows
import Derived.Deep.RegionLaw
namespace Go.Proofs.Ytejempihaknplaa.G
open Go.RowKit Go.Shelf Go.Proofs.YtejempihaknplaaW.PrintWords Go.Proofs.YtejempihaknplaaW.PrintLast Go.Proofs.YtejempihaknplaaW.PrintMore
set_option linter.unusedVariables false

/-- The node, the pair and the result of a call of Put. -/
structure PutInv (w : World) (C D Z : Array Value) (W : World) : Prop where
  node : Blk W w.heap.size 26 C
  pair : Blk W (w.heap.size + 1) 39 D
  res : Blk W (w.heap.size + 1 + 1) 26 Z
  below : Below w.heap.size w W
section
variable {w : World} {C D Z : Array Value} {W W' : World}
theorem PutInv.mk0 (w : World) (C D Z : Array Value) : PutInv w C D Z (((w.alloc (.cells C 26)).alloc (.cells D 39)).alloc (.cells Z 26)) := by
  refine ⟨((Blk.new w _ _).alloc _).alloc _, ?_, ?_, bl_al (bl_al (bl_al (bl_re w) _) _) _⟩
  · have := (Blk.new (w.alloc (.cells C 26)) 39 D).alloc (.cells Z 26)
    rw [World.size_alloc] at this
    exact this
  · have := Blk.new ((w.alloc (.cells C 26)).alloc (.cells D 39)) 26 Z
    rw [World.size_alloc, World.size_alloc] at this
    exact this
theorem PutInv.next (h : PutInv w C D Z W) (hb : Below W.heap.size W W') : PutInv w C D Z W' := ⟨h.node.below hb h.node.lt, h.pair.below hb h.pair.lt, h.res.below hb h.res.lt, bl_tr h.below hb⟩
theorem PutInv.nextB (h : PutInv w C D Z W) (hb : Below (w.heap.size + 1 + 1 + 1) W W') : PutInv w C D Z W' := ⟨h.node.below hb (by omega), h.pair.below hb (by omega), h.res.below hb (by omega), h.below.trans (hb.mono (by omega))⟩
theorem PutInv.drew (h : PutInv w C D Z W) : PutInv w C D Z W.drew := ⟨h.node, h.pair, h.res, h.below.drew⟩
theorem PutInv.drewN (h : PutInv w C D Z W) (n : Nat) : PutInv w C D Z (W.drewN n) := h.next (below_drewN (Below.refl _ _) n)
theorem PutInv.alloc (h : PutInv w C D Z W) (o : Obj) : PutInv w C D Z (W.alloc o) := h.next (bl_al (bl_re W) o)
end

theorem C_one (W : World) (s : ByteArray) : Kd.C Kd.string (W.alloc (.cells #[.string s] 9)) (some ⟨W.heap.size, 0, none⟩) 1 [s] := by
  refine ⟨rfl, by omega, fun _ => ⟨_, rfl, fun j p hj => ?_⟩⟩
  cases j with
  | zero =>
    simp at hj
    subst hj
    refine ⟨[.string s], rfl, rfl, fun i u hu => ?_⟩
    cases i with
    | zero =>
      simp at hu
      subst hu
      exact (Blk.new W _ _).cell 0
    | succ i => simp at hu
  | succ j => simp at hj
theorem one_size (a b : Int) (s : ByteArray) (W : World) (r : Bool) (h : inB a b s = r) : Calls Try.prog 45 #[.int .i64 a, .int .i64 b, .slice (some ⟨W.heap.size, 0, none⟩) 1 1] (W.alloc (.cells #[.string s] 9)) fun e w' => e = .returned (.bool r) ∧ Drawn0 (W.alloc (.cells #[.string s] 9)) w' :=
  node_isSize.calls 2 a b (some ⟨W.heap.size, 0, none⟩) 1 [s] r _ (C_one W s) (Nat.le_refl _) (by rw [isSize_eq a b [s] (by simp) 2 (by simp)]; simp [h])
theorem run_hm {A : Option Addr} {n c : Nat} (m : Nat) (h : m ≤ c) (W : World) : (Instr.slice 22 (.slice A n c) none (some (.int .i64 (m : Int))) (some (.int .i64 (m : Int)))).run Try.prog W = .ok (.slice A m m) W := by
  obtain ⟨i39, hi, hz0, hz1, hz2⟩ := info_parts info39
  have hel : Try.prog.elem 22 = 39 := by simp [Program.elem, Try.underlying22]
  have hu : Try.prog.underlying 22 = some (.slice (Try.prog.elem 22)) := by rw [hel]; exact Try.underlying22
  have ha : (A.map fun x => x.add 0) = A := by cases A <;> simp [Addr.add]
  rw [run_slice_hm W 22 A n c hu .i64 .i64 (m : Int) (m : Int) (by omega) (by omega) (by omega), hel]
  simp [sizeOf, typeInfo, hi, sliced, Result.andThen, ha]
section
variable (A0_0 : Option Addr) (c0_0 : Nat) (l0_0 : List S39) (A0_1 : Option Addr) (c0_1 : Nat) (l0_1 : List ByteArray) (A0_2 : Option Addr) (c0_2 : Nat) (l0_2 : List Int) (k v : ByteArray) (w : World)
set_option maxHeartbeats 1000000 in
theorem put_noleaf (hr0_0 : Kd.C k39 w A0_0 l0_0.length l0_0) (hc0_0 : l0_0.length ≤ c0_0) (hr0_1 : Kd.C Kd.string w A0_1 l0_1.length l0_1) (hc0_1 : l0_1.length ≤ c0_1) (hr0_2 : Kd.C (Kd.int .u32) w A0_2 l0_2.length l0_2) (hc0_2 : l0_2.length ≤ c0_2)
    (hs : smallB l0_0 l0_1 l0_2 = true) (hl : leafB l0_0 l0_1 l0_2 = false) :
    Calls Try.prog 22 #[.agg #[.slice A0_0 l0_0.length c0_0, .slice A0_1 l0_1.length c0_1, .slice A0_2 l0_2.length c0_2], .agg #[.string k, .string v]] w fun e w' => e = .returned (.tuple #[.agg #[.slice none 0 0, .slice none 0 0, .slice none 0 0], .int .i64 60]) ∧ Below w.heap.size w w' := by
  have H := Lib.hid (fun W => fun hb : Below w.heap.size w W => node_isLeaf.calls 400011 A0_0 c0_0 l0_0 A0_1 c0_1 l0_1 A0_2 c0_2 l0_2 _ W (Kd.C_below hr0_0 hb) hc0_0 (Kd.C_below hr0_1 hb) hc0_1 (Kd.C_below hr0_2 hb) hc0_2 (isLeaf_eq l0_0 l0_1 l0_2 hs _ (by omega)))
  rw [hl] at H
  have HI := Lib.hid (PutInv.mk0 w #[.slice A0_0 l0_0.length c0_0, .slice A0_1 l0_1.length c0_1, .slice A0_2 l0_2.length c0_2] #[.string k, .string v] #[.slice none 0 0, .slice none 0 0, .slice none 0 0])
  clear hr0_0 hc0_0 hr0_1 hc0_1 hr0_2 hc0_2 hs hl
  go_enter Try.func22, Try.ntmps22
  go_wp2_with fail
  refine (H.out _ HI.out.below).mono ?_
  rintro e w1 ⟨rfl, hb1⟩
  have h1 := HI.out.next hb1
  have x0 := h1.res.frozen 0
  have x1 := h1.res.frozen 1
  have x2 := h1.res.frozen 2
  have y0 : w1.cell? ⟨w.heap.size + 1 + 1, 0, none⟩ = some (.slice none 0 0) := h1.res.cell 0
  have y1 : w1.cell? ⟨w.heap.size + 1 + 1, 1, none⟩ = some (.slice none 0 0) := h1.res.cell 1
  have y2 : w1.cell? ⟨w.heap.size + 1 + 1, 2, none⟩ = some (.slice none 0 0) := h1.res.cell 2
  have H1 := Lib.hid h1
  clear h1 hb1
  go_wp2
  exact post_node rfl (((H1.out.res.set_ 0 _).set_ 1 _).set_ 2 _) rfl rfl rfl ⟨rfl, bl_st (bl_st (bl_st H1.out.below (by simp; omega) _) (by simp; omega) _) (by simp; omega) _⟩

set_option maxHeartbeats 1000000 in
theorem put_nokey (hr0_0 : Kd.C k39 w A0_0 l0_0.length l0_0) (hc0_0 : l0_0.length ≤ c0_0) (hr0_1 : Kd.C Kd.string w A0_1 l0_1.length l0_1) (hc0_1 : l0_1.length ≤ c0_1) (hr0_2 : Kd.C (Kd.int .u32) w A0_2 l0_2.length l0_2) (hc0_2 : l0_2.length ≤ c0_2)
    (hs : smallB l0_0 l0_1 l0_2 = true) (hl : leafB l0_0 l0_1 l0_2 = true) (hk : inB 1 24 k = false) :
    Calls Try.prog 22 #[.agg #[.slice A0_0 l0_0.length c0_0, .slice A0_1 l0_1.length c0_1, .slice A0_2 l0_2.length c0_2], .agg #[.string k, .string v]] w fun e w' => e = .returned (.tuple #[.agg #[.slice none 0 0, .slice none 0 0, .slice none 0 0], .int .i64 60]) ∧ Below w.heap.size w w' := by
  have H := Lib.hid (fun W => fun hb : Below w.heap.size w W => node_isLeaf.calls 400011 A0_0 c0_0 l0_0 A0_1 c0_1 l0_1 A0_2 c0_2 l0_2 _ W (Kd.C_below hr0_0 hb) hc0_0 (Kd.C_below hr0_1 hb) hc0_1 (Kd.C_below hr0_2 hb) hc0_2 (isLeaf_eq l0_0 l0_1 l0_2 hs _ (by omega)))
  rw [hl] at H
  have HK := Lib.hid (fun W => one_size 1 24 k W false hk)
  have HI := Lib.hid (PutInv.mk0 w #[.slice A0_0 l0_0.length c0_0, .slice A0_1 l0_1.length c0_1, .slice A0_2 l0_2.length c0_2] #[.string k, .string v] #[.slice none 0 0, .slice none 0 0, .slice none 0 0])
  clear hr0_0 hc0_0 hr0_1 hc0_1 hr0_2 hc0_2 hs hl hk
  go_enter Try.func22, Try.ntmps22
  go_wp2_with fail
  refine (H.out _ HI.out.below).mono ?_
  rintro e w1 ⟨rfl, hb1⟩
  have h1 := HI.out.next hb1
  have z0 : w1.cell? ⟨w.heap.size + 1, 0, none⟩ = some (.string k) := h1.pair.cell 0
  have z1 : w1.cell? ⟨w.heap.size + 1, 1, none⟩ = some (.string v) := h1.pair.cell 1
  have H1 := Lib.hid h1
  clear h1 hb1
  go_wp2_with fail
  refine (HK.out w1).mono ?_
  rintro e w2 ⟨rfl, ⟨n, rfl⟩⟩
  have h2 := (H1.out.alloc (.cells #[.string k] 9)).drewN n
  generalize (w1.alloc (.cells #[.string k] 9)).drewN n = w2 at *
  have x0 := h2.res.frozen 0
  have x1 := h2.res.frozen 1
  have x2 := h2.res.frozen 2
  have y0 : w2.cell? ⟨w.heap.size + 1 + 1, 0, none⟩ = some (.slice none 0 0) := h2.res.cell 0
  have y1 : w2.cell? ⟨w.heap.size + 1 + 1, 1, none⟩ = some (.slice none 0 0) := h2.res.cell 1
  have y2 : w2.cell? ⟨w.heap.size + 1 + 1, 2, none⟩ = some (.slice none 0 0) := h2.res.cell 2
  have H2 := Lib.hid h2
  clear h2 z0 z1
  go_wp2
  exact post_node rfl (((H2.out.res.set_ 0 _).set_ 1 _).set_ 2 _) rfl rfl rfl ⟨rfl, bl_st (bl_st (bl_st H2.out.below (by simp; omega) _) (by simp; omega) _) (by simp; omega) _⟩

set_option maxHeartbeats 1000000 in
theorem put_novalue (hr0_0 : Kd.C k39 w A0_0 l0_0.length l0_0) (hc0_0 : l0_0.length ≤ c0_0) (hr0_1 : Kd.C Kd.string w A0_1 l0_1.length l0_1) (hc0_1 : l0_1.length ≤ c0_1) (hr0_2 : Kd.C (Kd.int .u32) w A0_2 l0_2.length l0_2) (hc0_2 : l0_2.length ≤ c0_2)
    (hs : smallB l0_0 l0_1 l0_2 = true) (hl : leafB l0_0 l0_1 l0_2 = true) (hk : inB 1 24 k = true) (hv : inB 0 60 v = false) :
    Calls Try.prog 22 #[.agg #[.slice A0_0 l0_0.length c0_0, .slice A0_1 l0_1.length c0_1, .slice A0_2 l0_2.length c0_2], .agg #[.string k, .string v]] w fun e w' => e = .returned (.tuple #[.agg #[.slice none 0 0, .slice none 0 0, .slice none 0 0], .int .i64 60]) ∧ Below w.heap.size w w' := by
  have H := Lib.hid (fun W => fun hb : Below w.heap.size w W => node_isLeaf.calls 400011 A0_0 c0_0 l0_0 A0_1 c0_1 l0_1 A0_2 c0_2 l0_2 _ W (Kd.C_below hr0_0 hb) hc0_0 (Kd.C_below hr0_1 hb) hc0_1 (Kd.C_below hr0_2 hb) hc0_2 (isLeaf_eq l0_0 l0_1 l0_2 hs _ (by omega)))
  rw [hl] at H
  have HK := Lib.hid (fun W => one_size 1 24 k W true hk)
  have HV := Lib.hid (fun W => one_size 0 60 v W false hv)
  have HI := Lib.hid (PutInv.mk0 w #[.slice A0_0 l0_0.length c0_0, .slice A0_1 l0_1.length c0_1, .slice A0_2 l0_2.length c0_2] #[.string k, .string v] #[.slice none 0 0, .slice none 0 0, .slice none 0 0])
  clear hr0_0 hc0_0 hr0_1 hc0_1 hr0_2 hc0_2 hs hl hk hv
  go_enter Try.func22, Try.ntmps22
  go_wp2_with fail
  refine (H.out _ HI.out.below).mono ?_
  rintro e w1 ⟨rfl, hb1⟩
  have h1 := HI.out.next hb1
  have z0 : w1.cell? ⟨w.heap.size + 1, 0, none⟩ = some (.string k) := h1.pair.cell 0
  have H1 := Lib.hid h1
  clear h1 hb1
  go_wp2_with fail
  refine (HK.out w1).mono ?_
  rintro e w2 ⟨rfl, ⟨n, rfl⟩⟩
  have h2 := (H1.out.alloc (.cells #[.string k] 9)).drewN n
  generalize (w1.alloc (.cells #[.string k] 9)).drewN n = w2 at *
  have z1 : w2.cell? ⟨w.heap.size + 1, 1, none⟩ = some (.string v) := h2.pair.cell 1
  have H2 := Lib.hid h2
  clear h2 z0
  go_wp2_with fail
  refine (HV.out w2).mono ?_
  rintro e w3 ⟨rfl, ⟨m, rfl⟩⟩
  have h3 := (H2.out.alloc (.cells #[.string v] 9)).drewN m
  generalize (w2.alloc (.cells #[.string v] 9)).drewN m = w3 at *
  have x0 := h3.res.frozen 0
  have x1 := h3.res.frozen 1
  have x2 := h3.res.frozen 2
  have y0 : w3.cell? ⟨w.heap.size + 1 + 1, 0, none⟩ = some (.slice none 0 0) := h3.res.cell 0
  have y1 : w3.cell? ⟨w.heap.size + 1 + 1, 1, none⟩ = some (.slice none 0 0) := h3.res.cell 1
  have y2 : w3.cell? ⟨w.heap.size + 1 + 1, 2, none⟩ = some (.slice none 0 0) := h3.res.cell 2
  have H3 := Lib.hid h3
  clear h3 z1
  go_wp2
  exact post_node rfl (((H3.out.res.set_ 0 _).set_ 1 _).set_ 2 _) rfl rfl rfl ⟨rfl, bl_st (bl_st (bl_st H3.out.below (by simp; omega) _) (by simp; omega) _) (by simp; omega) _⟩

theorem olds_of {w : World} {A : Option Addr} {ps : List S39} (h : Kd.C k39 w A ps.length ps) (m : Nat) (hm : m ≤ ps.length) :
    ∃ olds : List Value, Reps (fun x cs => cs = [.string x.f0, .string x.f1]) 2 (ps.take m) olds ∧ ∀ b, A = some b → ∀ j u, olds[j]? = some u → w.cell? (b.add j) = some u := by
  cases A with
  | none =>
    obtain rfl := reads_nil h
    exact ⟨[], by rw [List.take_nil]; exact Reps.none _ _, fun b hb => by cases hb⟩
  | some ad =>
    obtain ⟨inner, h1, h2⟩ := ReadsRow.inner_ (Kd.C_take h hm)
    exact ⟨inner, h1.imp_ (fun x cs hx => k39_open hx), fun b hb j u hj => by cases hb; exact h2 j u hj⟩
theorem olds_R {w : World} {base : Nat} {v : Value} {ps : List S39} {cells : List Value} {n : Nat} (h : w.ownsRow base 39 2 v n cells) (hn : n = ps.length) (hr : Reps (fun x cs => cs = [.string x.f0, .string x.f1]) 2 ps cells) : Kd.R k39 39 w base (fun _ => True) v ps := by
  subst hn
  exact ⟨fun _ _ => trivial, cells, h, hr.imp_ (fun x cs hx => by rw [hx]; exact k39_mkM _ _ _ _)⟩
/-- Where what follows the pair begins. -/
def putEnd (ps : List S39) (k : ByteArray) (at_ : Nat) : Nat := if (ps[at_]?).map (·.f0.toList) = some k.toList then at_ + 1 else at_
def putP (ps : List S39) (p : S39) (at_ end_ : Nat) : List S39 := ps.take at_ ++ p :: ps.drop end_
def PutEnd (w : World) (l : List S39) (e : Ending) (w' : World) : Prop := ((l.length ≤ 255 ∧ ∃ v0 : Value, e = .returned (.tuple #[.agg #[v0, .slice none 0 0, .slice none 0 0], .int .i64 0]) ∧ Kd.R k39 39 w' w.heap.size (fun _ => True) v0 l) ∨ (255 < l.length ∧ e = .returned (.tuple #[.agg #[.slice none 0 0, .slice none 0 0, .slice none 0 0], .int .i64 60]))) ∧ Below w.heap.size w w'
theorem place_leaf_le {ps : List S39} {ks : List ByteArray} {kd : List Int} (h : leafB ps ks kd = true) (t : ByteArray) : placeN ps ks kd t ≤ ps.length := by
  simp only [leafB, Bool.and_eq_true, List.isEmpty_iff] at h
  obtain ⟨⟨⟨⟨rfl, rfl⟩, _⟩, _⟩, _⟩ := h
  unfold placeN
  split
  · have := placeP_le ([] ++ ps.map (·.f0)) t
    simp at this
    simpa using this
  · omega
set_option maxRecDepth 100000 in
set_option maxHeartbeats 4000000 in
theorem put_ok (hr0_0 : Kd.C k39 w A0_0 l0_0.length l0_0) (hc0_0 : l0_0.length ≤ c0_0) (hr0_1 : Kd.C Kd.string w A0_1 l0_1.length l0_1) (hc0_1 : l0_1.length ≤ c0_1) (hr0_2 : Kd.C (Kd.int .u32) w A0_2 l0_2.length l0_2) (hc0_2 : l0_2.length ≤ c0_2)
    (hs : smallB l0_0 l0_1 l0_2 = true) (hl : leafB l0_0 l0_1 l0_2 = true) (hk : inB 1 24 k = true) (hv : inB 0 60 v = true) (at_ en : Nat) (hat1 : placeN l0_0 l0_1 l0_2 k = at_) (hen : putEnd l0_0 k at_ = en) :
    Calls Try.prog 22 #[.agg #[.slice A0_0 l0_0.length c0_0, .slice A0_1 l0_1.length c0_1, .slice A0_2 l0_2.length c0_2], .agg #[.string k, .string v]] w fun e w' => PutEnd w (putP l0_0 ⟨k, v⟩ at_ en) e w' := by
  have hat : at_ ≤ l0_0.length := by rw [← hat1]; exact place_leaf_le hl k
  obtain ⟨L, hL⟩ : ∃ L, putP l0_0 ⟨k, v⟩ at_ en = L := ⟨_, rfl⟩
  rw [hL]
  have HL := Lib.hid hL
  have HEN := Lib.hid hen
  clear hL hen
  have hps : l0_0.length ≤ 100000 := by
    simp only [smallB, Bool.and_eq_true, decide_eq_true_eq] at hs
    exact hs.1.1
  have H := Lib.hid (fun W => fun hb : Below w.heap.size w W => node_isLeaf.calls 400011 A0_0 c0_0 l0_0 A0_1 c0_1 l0_1 A0_2 c0_2 l0_2 _ W (Kd.C_below hr0_0 hb) hc0_0 (Kd.C_below hr0_1 hb) hc0_1 (Kd.C_below hr0_2 hb) hc0_2 (isLeaf_eq l0_0 l0_1 l0_2 hs _ (by omega)))
  have HP := Lib.hid (fun W => fun hb : Below w.heap.size w W => node_Place.calls 400011 A0_0 c0_0 l0_0 A0_1 c0_1 l0_1 A0_2 c0_2 l0_2 k _ W (Kd.C_below hr0_0 hb) hc0_0 (Kd.C_below hr0_1 hb) hc0_1 (Kd.C_below hr0_2 hb) hc0_2 (place_eq l0_0 l0_1 l0_2 k hs _ (by omega)))
  rw [hl] at H
  rw [hat1] at HP
  have HK := Lib.hid (fun W => one_size 1 24 k W true hk)
  have HV := Lib.hid (fun W => one_size 0 60 v W true hv)
  have HI := Lib.hid (PutInv.mk0 w #[.slice A0_0 l0_0.length c0_0, .slice A0_1 l0_1.length c0_1, .slice A0_2 l0_2.length c0_2] #[.string k, .string v] #[.slice none 0 0, .slice none 0 0, .slice none 0 0])
  have HC := Lib.hid hr0_0
  have HC0 := Lib.hid hc0_0
  clear hr0_0 hc0_0 hr0_1 hc0_1 hr0_2 hc0_2 hs hl hk hv hat1
  go_enter Try.func22, Try.ntmps22
  go_wp2_with fail
  refine (H.out _ HI.out.below).mono ?_
  rintro e w1 ⟨rfl, hb1⟩
  have h1 := HI.out.next hb1
  have z0 : w1.cell? ⟨w.heap.size + 1, 0, none⟩ = some (.string k) := h1.pair.cell 0
  have H1 := Lib.hid h1
  clear h1 hb1
  go_wp2_with fail
  refine (HK.out w1).mono ?_
  rintro e w2 ⟨rfl, ⟨n, rfl⟩⟩
  have h2 := (H1.out.alloc (.cells #[.string k] 9)).drewN n
  generalize (w1.alloc (.cells #[.string k] 9)).drewN n = w2 at *
  have z1 : w2.cell? ⟨w.heap.size + 1, 1, none⟩ = some (.string v) := h2.pair.cell 1
  have H2 := Lib.hid h2
  clear h2 z0
  go_wp2_with fail
  refine (HV.out w2).mono ?_
  rintro e w3 ⟨rfl, ⟨m, rfl⟩⟩
  have h3 := (H2.out.alloc (.cells #[.string v] 9)).drewN m
  generalize (w2.alloc (.cells #[.string v] 9)).drewN m = w3 at *
  have c0 : w3.cell? ⟨w.heap.size, 0, none⟩ = some (.slice A0_0 l0_0.length c0_0) := h3.node.cell 0
  have c1 : w3.cell? ⟨w.heap.size, 1, none⟩ = some (.slice A0_1 l0_1.length c0_1) := h3.node.cell 1
  have c2 : w3.cell? ⟨w.heap.size, 2, none⟩ = some (.slice A0_2 l0_2.length c0_2) := h3.node.cell 2
  have z0 : w3.cell? ⟨w.heap.size + 1, 0, none⟩ = some (.string k) := h3.pair.cell 0
  have H3 := Lib.hid h3
  clear h3 z1
  go_wp2_with fail
  refine (HP.out w3 H3.out.below).mono ?_
  rintro e w4 ⟨rfl, hb4⟩
  have H4 := Lib.hid (H3.out.next hb4)
  clear hb4 c0 c1 c2 z0
  have c0 : w4.cell? ⟨w.heap.size, 0, none⟩ = some (.slice A0_0 l0_0.length c0_0) := H4.out.node.cell 0
  have z0 : w4.cell? ⟨w.heap.size + 1, 0, none⟩ = some (.string k) := H4.out.pair.cell 0
  have hi0 : (0 : Int) ≤ (at_ : Int) := by omega
  go_upto_region 5 with fail
  go_cut [47] (fun s47 wx => s47 = .bool (decide (en = at_ + 1)) ∧ Hid (en = at_ + 1 ∧ at_ < l0_0.length ∨ en = at_) ∧ Hid (PutInv w #[.slice A0_0 l0_0.length c0_0, .slice A0_1 l0_1.length c0_1, .slice A0_2 l0_2.length c0_2] #[.string k, .string v] #[.slice none 0 0, .slice none 0 0, .slice none 0 0] wx))
  case first =>
    by_cases hlt : at_ < l0_0.length
    · obtain ⟨ad, rfl, x0, x1⟩ := at_T39 HC.out (at_ : Int) (by omega) (by omega)
      have q0 := (H4.out.below.cell (World.block_lt_of_cell? w _ x0)).trans x0
      rw [rdT_nat l0_0 at_ hlt, Int.toNat_natCast] at q0
      clear x0 x1
      have hE := HEN.out
      unfold putEnd at hE
      rw [List.getElem?_eq_getElem hlt] at hE
      obtain ⟨kk, hkk⟩ : ∃ kk, l0_0[at_].f0 = kk := ⟨_, rfl⟩
      rw [hkk] at q0
      simp only [Option.map_some, hkk, Option.some.injEq] at hE
      have hd : decide ((at_ : Int) < (l0_0.length : Int)) = true := decide_eq_true (by omega)
      by_cases hq : kk.toList = k.toList
      · have hqb : (kk.toList == k.toList) = true := by simp [hq]
        rw [if_pos hq] at hE
        have hx : decide (en = at_ + 1) = true := decide_eq_true hE.symm
        have HXX := Lib.hid hx
        have HE := Lib.hid hE
        clear hE hq hkk hx
        go_quiet (fail)
        go_wp2_with fail
        go_meet
        exact ⟨by rw [HXX.out], Lib.hid (.inl ⟨HE.out.symm, hlt⟩), Lib.hid (H4.out.drewN _)⟩
      · have hqb : (kk.toList == k.toList) = false := by simp [hq]
        rw [if_neg hq] at hE
        have hx : decide (en = at_ + 1) = false := decide_eq_false (by omega)
        have HXX := Lib.hid hx
        have HE := Lib.hid hE
        clear hE hq hkk hx
        go_quiet (fail)
        go_wp2_with fail
        go_meet
        exact ⟨by rw [HXX.out], Lib.hid (.inr HE.out.symm), Lib.hid (H4.out.drewN _)⟩
    · have hd : decide ((at_ : Int) < (l0_0.length : Int)) = false := decide_eq_false (by omega)
      have hE := HEN.out
      unfold putEnd at hE
      rw [List.getElem?_eq_none (by omega), if_neg (by simp)] at hE
      have hx : decide (en = at_ + 1) = false := decide_eq_false (by omega)
      have HXX := Lib.hid hx
      have HE := Lib.hid hE
      clear hE hx
      go_quiet (fail)
      go_wp2_with fail
      go_meet
      exact ⟨by rw [HXX.out], Lib.hid (.inr HE.out.symm), Lib.hid (H4.out.drewN _)⟩
  case rest =>
    obtain ⟨rfl, he, hw⟩ := hcut
    clear c0 z0 H4
    go_upto_if 47 with (fail)
    go_cut [7] (fun s7 wx => s7 = .int .i64 (en : Int) ∧ Hid (PutInv w #[.slice A0_0 l0_0.length c0_0, .slice A0_1 l0_1.length c0_1, .slice A0_2 l0_2.length c0_2] #[.string k, .string v] #[.slice none 0 0, .slice none 0 0, .slice none 0 0] wx))
    case first =>
      rcases he.out with ⟨h, hlt⟩ | h
      · have hx : decide (en = at_ + 1) = true := decide_eq_true h
        rw [hx]
        have HH := Lib.hid h
        clear h hx
        go_wp2_with fail
        go_meet
        exact ⟨by rw [HH.out]; go_num, hw⟩
      · have hx : decide (en = at_ + 1) = false := decide_eq_false (by omega)
        rw [hx]
        have HH := Lib.hid h
        clear h hx
        go_wp2_with fail
        go_meet
        exact ⟨by rw [HH.out], hw⟩
    case rest =>
      clear hw
      obtain ⟨rfl, hw⟩ := hcut
      have hen : en ≤ l0_0.length := by rcases he.out with ⟨h, h'⟩ | h <;> omega
      obtain ⟨olds, ho1, ho2⟩ := olds_of HC.out at_ hat
      obtain ⟨i39, hi, hz0, hz1, hz2⟩ := info_parts info39
      have hsl7 := fun W => run_hm (A := A0_0) (n := l0_0.length) (c := c0_0) at_ (Nat.le_trans hat HC0.out) W
      have c0' : wc.cell? ⟨w.heap.size, 0, none⟩ = some (.slice A0_0 l0_0.length c0_0) := hw.out.node.cell 0
      have p0 : wc.cell? ⟨w.heap.size + 1, 0, none⟩ = some (.string k) := hw.out.pair.cell 0
      have p1 : wc.cell? ⟨w.heap.size + 1, 1, none⟩ = some (.string v) := hw.out.pair.cell 1
      have hl0 : w.heap.size < wc.heap.size := hw.out.node.lt
      have hl1 : w.heap.size + 1 < wc.heap.size := hw.out.pair.lt
      have hw7 := hw.out.drew.alloc (.cells #[.string k, .string v] 39)
      have ho3 : ∀ b, A0_0 = some b → ∀ j u, olds[j]? = some u → (wc.drew.alloc (.cells #[.string k, .string v] 39)).cell? (b.add j) = some u := fun b hb j u hj => (hw7.below.cell (World.block_lt_of_cell? w _ (ho2 b hb j u hj))).trans (ho2 b hb j u hj)
      have hnn : A0_0 = none → at_ = 0 ∧ at_ = 0 := fun hA => by
        have h1 := HC.out
        rw [hA] at h1
        have := reads_nil h1
        rw [this] at hat
        simp at hat
        exact ⟨hat, hat⟩
      have hol : olds.length = at_ * 2 := by rw [ho1.1, List.length_take, Nat.min_eq_left hat]
      have HO := Lib.hid (And.intro ho1 (And.intro hi (And.intro hz0 (And.intro hz1 hz2))))
      have HG := Lib.hid (And.intro ho3 (And.intro hnn hol))
      have HW7 := Lib.hid hw7
      clear hw7 ho1 ho2 ho3 hnn hol hi hz0 hz1 hz2
      go_upto_region 7 with fail
      go_cut [8] (fun s8 wx => Hid (Kd.R k39 39 wx (w.heap.size + 1 + 1 + 1) (fun _ => True) s8 (l0_0.take at_ ++ [⟨k, v⟩]) ∧ PutInv w #[.slice A0_0 l0_0.length c0_0, .slice A0_1 l0_1.length c0_1, .slice A0_2 l0_2.length c0_2] #[.string k, .string v] #[.slice none 0 0, .slice none 0 0, .slice none 0 0] wx))
      case first =>
        go_region_law (refine step_append_grows (by rfl) (.tmp 54) (.tmp 56) 22 (by rfl) 39 i39 _ 2 32 Try.underlying22 HO.out.2.1 HO.out.2.2.1 HO.out.2.2.2.1 HO.out.2.2.2.2 (by rfl) (by omega) A0_0 at_ at_ olds (by rfl) HG.out.2.1 HG.out.2.2 HG.out.1 ⟨wc.heap.size, 0, none⟩ 1 1 [.string k, .string v] (by rfl) (by rfl) (World.news_of_block (heap_alloc_new wc.drew _)) (by intro u hu; simp at hu; rcases hu with rfl | rfl <;> rfl) (by omega) (by unfold maxLen; omega) (by omega) ?_; intro v8 w6 hown hgrow)
        all_goals
          go_wp2_with fail
          go_meet
          refine Lib.hid ⟨?_, HW7.out.next ⟨hgrow.os, hgrow.tape, hgrow.output, hgrow.size, fun i hi => hgrow.block i hi (by simp)⟩⟩
          exact Kd.R_lower (olds_R hown (by rw [List.length_append, List.length_take, Nat.min_eq_left hat]; rfl) (HO.out.1.snoc rfl rfl)) HW7.out.res.lt
      case rest =>
        obtain ⟨hR, hP⟩ := hcut.out
        clear hcut
        obtain ⟨A9, c9, rfl⟩ := Kd.R_slice hR
        have hdr := Kd.C_drop (m := en) HC.out hen HC0.out
        have hsl8 := cut_from (P := Try.prog) 22 39 .i64 Try.underlying22 HO.out.2.1 2 HO.out.2.2.2.1 A0_0 l0_0.length c0_0 (en : Int) (by omega) (by omega)
        rw [Int.toNat_natCast] at hsl8
        obtain ⟨A8, hA8⟩ : ∃ A8, (if c0_0 = en then A0_0 else A0_0.map (·.add (en * 2))) = A8 := ⟨_, rfl⟩
        have hdr' : Kd.C k39 w A8 (l0_0.drop en).length (l0_0.drop en) := by rw [← hA8]; exact hdr
        rw [hA8] at hsl8
        have hLe : (l0_0.take at_ ++ [(⟨k, v⟩ : S39)]) ++ l0_0.drop en = L := by rw [← HL.out]; simp [putP]
        have hlx : (l0_0.take at_ ++ [(⟨k, v⟩ : S39)]).length ≤ 100001 := by rw [List.length_append, List.length_take, Nat.min_eq_left hat]; simp; omega
        obtain ⟨X, hX⟩ : ∃ X, l0_0.take at_ ++ [(⟨k, v⟩ : S39)] = X := ⟨_, rfl⟩
        rw [hX] at hR hLe hlx ⊢
        have c00 : wc.cell? ⟨w.heap.size, 0, none⟩ = some (.slice A0_0 l0_0.length c0_0) := hP.node.cell 0
        have HX := Lib.hid (And.intro hR (And.intro hP (And.intro hdr' hLe)))
        have hdl : l0_0.length - en ≤ 100000 := by omega
        clear hR hP hdr hdr' hA8 hLe hX
        by_cases hl255 : L.length ≤ 255
        · have d9 : ¬ (255 : Int) < (L.length : Int) := by omega
          have HL255 := Lib.hid hl255
          clear hl255
          go_wp2_with (at_builtin; refine Kd.R_append_rows (Rr := Kd.K k39 w) (w0 := wc) k39 (w.heap.size + 1 + 1 + 1) rfl (.tmp 58) (.tmp 62) 22 39 (.agg #[(.string ⟨#[]⟩), (.string ⟨#[]⟩)]) 32 rfl Try.underlying22 info39 rfl (by decide) (by decide) (.slice A9 X.length c9) X (l0_0.drop en) A8 (l0_0.length - en) (c0_0 - en) (fun _ => True) (fun _ => False) rfl rfl ?O ?R ?K (fun _ h => h.elim) (fun _ _ => trivial) ?B ?S ?L ?_; (case O => exact HX.out.1); (case R => (have := HX.out.2.2.1; rw [List.length_drop] at this; exact ReadsRow.imp_ (Kd.C_below this HX.out.2.1.below) (Below.refl _ _) (fun _ _ h => h))); (case K => exact (fun x cs h => h)); (case B => exact Below.refl _ _); (case S => exact HX.out.2.1.res.lt); (case L => omega); intro v1 w1 hR1 hB1 hg1 hb1; rw [HX.out.2.2.2] at hR1; obtain ⟨A1, c1, rfl⟩ := Kd.R_slice hR1; have h1P := HX.out.2.1.nextB hB1; have f0 := h1P.res.frozen 0; have f1 := h1P.res.frozen 1; have f2 := h1P.res.frozen 2; have y0 : w1.cell? ⟨w.heap.size + 1 + 1, 0, none⟩ = some (.slice none 0 0) := h1P.res.cell 0; have y1 : w1.cell? ⟨w.heap.size + 1 + 1, 1, none⟩ = some (.slice none 0 0) := h1P.res.cell 1; have y2 : w1.cell? ⟨w.heap.size + 1 + 1, 2, none⟩ = some (.slice none 0 0) := h1P.res.cell 2; have HR1 := Lib.hid (And.intro hR1 h1P); clear hR1 hB1 hg1 hb1 h1P)
          have hP := HR1.out.2
          have e0 := Kd.R_set HR1.out.1 hP.res (by decide) 0 (.slice A1 L.length c1)
          have e1 := Kd.R_set e0 (hP.res.set_ 0 _) (by decide) 1 (.slice none 0 0)
          have e2 := Kd.R_set e1 ((hP.res.set_ 0 _).set_ 1 _) (by decide) 2 (.slice none 0 0)
          exact post_node rfl (((hP.res.set_ 0 _).set_ 1 _).set_ 2 _) rfl rfl rfl ⟨.inl ⟨HL255.out, _, rfl, Kd.R_lower e2 (by omega)⟩, bl_st (bl_st (bl_st hP.below (by simp; omega) _) (by simp; omega) _) (by simp; omega) _⟩
        · have d9 : (255 : Int) < (L.length : Int) := by omega
          have HL255 : Hid (255 < L.length) := Lib.hid (by omega)
          clear hl255
          go_wp2_with (at_builtin; refine Kd.R_append_rows (Rr := Kd.K k39 w) (w0 := wc) k39 (w.heap.size + 1 + 1 + 1) rfl (.tmp 58) (.tmp 62) 22 39 (.agg #[(.string ⟨#[]⟩), (.string ⟨#[]⟩)]) 32 rfl Try.underlying22 info39 rfl (by decide) (by decide) (.slice A9 X.length c9) X (l0_0.drop en) A8 (l0_0.length - en) (c0_0 - en) (fun _ => True) (fun _ => False) rfl rfl ?O ?R ?K (fun _ h => h.elim) (fun _ _ => trivial) ?B ?S ?L ?_; (case O => exact HX.out.1); (case R => (have := HX.out.2.2.1; rw [List.length_drop] at this; exact ReadsRow.imp_ (Kd.C_below this HX.out.2.1.below) (Below.refl _ _) (fun _ _ h => h))); (case K => exact (fun x cs h => h)); (case B => exact Below.refl _ _); (case S => exact HX.out.2.1.res.lt); (case L => omega); intro v1 w1 hR1 hB1 hg1 hb1; rw [HX.out.2.2.2] at hR1; obtain ⟨A1, c1, rfl⟩ := Kd.R_slice hR1; have h1P := HX.out.2.1.nextB hB1; have f0 := h1P.res.frozen 0; have f1 := h1P.res.frozen 1; have f2 := h1P.res.frozen 2; have y0 : w1.cell? ⟨w.heap.size + 1 + 1, 0, none⟩ = some (.slice none 0 0) := h1P.res.cell 0; have y1 : w1.cell? ⟨w.heap.size + 1 + 1, 1, none⟩ = some (.slice none 0 0) := h1P.res.cell 1; have y2 : w1.cell? ⟨w.heap.size + 1 + 1, 2, none⟩ = some (.slice none 0 0) := h1P.res.cell 2; have HR1 := Lib.hid (And.intro hR1 h1P); clear hR1 hB1 hg1 hb1 h1P)
          have hP := HR1.out.2
          exact post_node rfl (((hP.res.set_ 0 _).set_ 1 _).set_ 2 _) rfl rfl rfl ⟨.inr ⟨HL255.out, rfl⟩, bl_st (bl_st (bl_st hP.below (by simp; omega) _) (by simp; omega) _) (by simp; omega) _⟩
end

theorem takeWhile_map' (p : ByteArray → Bool) : ∀ ps : List S39, ((ps.map (·.f0)).takeWhile p).length = (ps.takeWhile fun x => p x.f0).length
  | [] => rfl
  | x :: r => by
    rw [List.map_cons, List.takeWhile_cons, List.takeWhile_cons]
    cases p x.f0 with
    | true => simp only [if_true, List.length_cons, takeWhile_map' p r]
    | false => rfl
theorem take_takeWhile {α : Type} (p : α → Bool) : ∀ l : List α, l.take (l.takeWhile p).length = l.takeWhile p ∧ l.drop (l.takeWhile p).length = l.dropWhile p
  | [] => ⟨rfl, rfl⟩
  | x :: r => by
    have ih := take_takeWhile p r
    rw [List.takeWhile_cons, List.dropWhile_cons]
    cases p x with
    | true => simp only [if_true, List.length_cons, List.take_succ_cons, List.drop_succ_cons, ih.1, ih.2, and_self]
    | false => exact ⟨rfl, rfl⟩
theorem leaf_place {ps : List S39} {ks : List ByteArray} {kd : List Int} (h : leafB ps ks kd = true) (t : ByteArray) : placeN ps ks kd t = (ps.takeWhile fun x => blt x.f0 t).length := by
  have hr : rightB ps ks kd = true := by unfold rightB; rw [h]; rfl
  unfold placeN
  rw [if_pos hr]
  simp only [leafB, Bool.and_eq_true, List.isEmpty_iff] at h
  obtain ⟨⟨⟨⟨rfl, rfl⟩, _⟩, _⟩, _⟩ := h
  simp [placeP, takeWhile_map' (fun x => blt x t)]
theorem putP_eq {ps : List S39} {ks : List ByteArray} {kd : List Int} (h : leafB ps ks kd = true) (p : S39) : putP ps p (placeN ps ks kd p.f0) (putEnd ps p.f0 (placeN ps ks kd p.f0)) = putN ps p := by
  rw [leaf_place h]
  have hri : Rising (ps.map (·.f0)) := by
    simp only [leafB, Bool.and_eq_true] at h
    exact (rises_iff _).1 h.2
  obtain ⟨h1, h2⟩ := take_takeWhile (fun x : S39 => blt x.f0 p.f0) ps
  unfold putP putN
  rw [h1]
  congr 1
  congr 1
  rw [← h2]
  obtain ⟨n, hn⟩ : ∃ n, (ps.takeWhile fun x => blt x.f0 p.f0).length = n := ⟨_, rfl⟩
  rw [hn]
  unfold putEnd
  rcases Nat.lt_or_ge n ps.length with hlt | hge
  · rw [List.getElem?_eq_getElem hlt, List.drop_eq_getElem_cons hlt, List.dropWhile_cons]
    by_cases hq : ps[n].f0.toList = p.f0.toList
    · rw [if_pos (by simp [hq]), if_pos (by simp [hq])]
      rcases Nat.lt_or_ge (n + 1) ps.length with hlt2 | hge2
      · rw [List.drop_eq_getElem_cons hlt2, List.dropWhile_cons, if_neg]
        intro he
        have hp := List.pairwise_iff_getElem.1 hri n (n + 1) (by simpa using hlt) (by simpa using hlt2) (by omega)
        simp only [List.getElem_map] at hp
        unfold blt at hp
        rw [hq, ← eq_of_beq he, less_irr] at hp
        cases hp
      · rw [List.drop_of_length_le hge2]
        rfl
    · rw [if_neg (by simp [hq]), if_neg (by simp [hq]), List.drop_eq_getElem_cons hlt]
  · rw [List.getElem?_eq_none hge, if_neg (by simp), List.drop_of_length_le hge]
    rfl
theorem pOk_iff (k v : ByteArray) : pOk ⟨k, v⟩ = (inB 1 24 k && inB 0 60 v) := by rw [inB_key, inB_value]; rfl
theorem node_Put.calls (A0_0 : Option Addr) (c0_0 : Nat) (l0_0 : List S39) (A0_1 : Option Addr) (c0_1 : Nat) (l0_1 : List ByteArray) (A0_2 : Option Addr) (c0_2 : Nat) (l0_2 : List Int) (a1_0 a1_1 : ByteArray) (r1 : List S39) (r2 : List ByteArray) (r3 : List Int) (r4 : Int) (w : World) (hr0_0 : Kd.C k39 w A0_0 l0_0.length l0_0) (hc0_0 : l0_0.length ≤ c0_0) (hr0_1 : Kd.C Kd.string w A0_1 l0_1.length l0_1) (hc0_1 : l0_1.length ≤ c0_1) (hr0_2 : Kd.C (Kd.int .u32) w A0_2 l0_2.length l0_2) (hc0_2 : l0_2.length ≤ c0_2) (h : node_Put.f l0_0 l0_1 l0_2 a1_0 a1_1 = some (r1, r2, r3, r4)) :
    Calls Try.prog 22 #[.agg #[.slice A0_0 l0_0.length c0_0, .slice A0_1 l0_1.length c0_1, .slice A0_2 l0_2.length c0_2], .agg #[.string a1_0, .string a1_1]] w fun e w' => ∃ v0_ v1_ v2_ : Value, e = .returned (.tuple #[.agg #[v0_, v1_, v2_], .int .i64 r4]) ∧ Kd.R k39 39 w' w.heap.size (fun _ => True) v0_ r1 ∧ Kd.R Kd.string 9 w' w.heap.size (fun _ => True) v1_ r2 ∧ Kd.R (Kd.int .u32) 65 w' w.heap.size (fun _ => True) v2_ r3 ∧ Below w.heap.size w w' := by
  unfold node_Put.f at h
  by_cases hs : smallB l0_0 l0_1 l0_2 = true
  · rw [if_pos hs, pOk_iff] at h
    have bad : ∀ {P : Prop}, Calls Try.prog 22 #[.agg #[.slice A0_0 l0_0.length c0_0, .slice A0_1 l0_1.length c0_1, .slice A0_2 l0_2.length c0_2], .agg #[.string a1_0, .string a1_1]] w (fun e w' => e = .returned (.tuple #[.agg #[.slice none 0 0, .slice none 0 0, .slice none 0 0], .int .i64 60]) ∧ Below w.heap.size w w') →
        some (([] : List S39), ([] : List ByteArray), ([] : List Int), (60 : Int)) = some (r1, r2, r3, r4) → Calls Try.prog 22 #[.agg #[.slice A0_0 l0_0.length c0_0, .slice A0_1 l0_1.length c0_1, .slice A0_2 l0_2.length c0_2], .agg #[.string a1_0, .string a1_1]] w fun e w' => ∃ v0_ v1_ v2_ : Value, e = .returned (.tuple #[.agg #[v0_, v1_, v2_], .int .i64 r4]) ∧ Kd.R k39 39 w' w.heap.size (fun _ => True) v0_ r1 ∧ Kd.R Kd.string 9 w' w.heap.size (fun _ => True) v1_ r2 ∧ Kd.R (Kd.int .u32) 65 w' w.heap.size (fun _ => True) v2_ r3 ∧ Below w.heap.size w w' := by
      intro P hc h
      simp only [Option.some.injEq, Prod.mk.injEq] at h
      obtain ⟨rfl, rfl, rfl, rfl⟩ := h
      refine hc.mono ?_
      rintro e w' ⟨rfl, hb⟩
      exact ⟨_, _, _, rfl, Kd.R_nil _ _ _ _ _, Kd.R_nil _ _ _ _ _, Kd.R_nil _ _ _ _ _, hb⟩
    cases hl : leafB l0_0 l0_1 l0_2 with
    | false =>
      rw [hl, if_neg (by simp)] at h
      exact bad (P := True) (put_noleaf A0_0 c0_0 l0_0 A0_1 c0_1 l0_1 A0_2 c0_2 l0_2 a1_0 a1_1 w hr0_0 hc0_0 hr0_1 hc0_1 hr0_2 hc0_2 hs hl) h
    | true =>
      cases hk : inB 1 24 a1_0 with
      | false =>
        rw [hk, if_neg (by simp)] at h
        exact bad (P := True) (put_nokey A0_0 c0_0 l0_0 A0_1 c0_1 l0_1 A0_2 c0_2 l0_2 a1_0 a1_1 w hr0_0 hc0_0 hr0_1 hc0_1 hr0_2 hc0_2 hs hl hk) h
      | true =>
        cases hv : inB 0 60 a1_1 with
        | false =>
          rw [hv, if_neg (by simp)] at h
          exact bad (P := True) (put_novalue A0_0 c0_0 l0_0 A0_1 c0_1 l0_1 A0_2 c0_2 l0_2 a1_0 a1_1 w hr0_0 hc0_0 hr0_1 hc0_1 hr0_2 hc0_2 hs hl hk hv) h
        | true =>
          have hok := put_ok A0_0 c0_0 l0_0 A0_1 c0_1 l0_1 A0_2 c0_2 l0_2 a1_0 a1_1 w hr0_0 hc0_0 hr0_1 hc0_1 hr0_2 hc0_2 hs hl hk hv _ _ rfl rfl
          rw [putP_eq hl ⟨a1_0, a1_1⟩] at hok
          rw [hl, hk, hv] at h
          by_cases h255 : (putN l0_0 ⟨a1_0, a1_1⟩).length ≤ 255
          · rw [if_pos (by simp [h255])] at h
            simp only [Option.some.injEq, Prod.mk.injEq] at h
            obtain ⟨rfl, rfl, rfl, rfl⟩ := h
            refine hok.mono ?_
            rintro e w' ⟨h | ⟨h, _⟩, hb⟩
            · obtain ⟨_, v0, rfl, hR⟩ := h
              exact ⟨_, _, _, rfl, hR, Kd.R_nil _ _ _ _ _, Kd.R_nil _ _ _ _ _, hb⟩
            · omega
          · rw [if_neg (by simp [h255])] at h
            refine bad (P := True) (hok.mono ?_) h
            rintro e w' ⟨⟨h, _⟩ | ⟨_, rfl⟩, hb⟩
            · omega
            · exact ⟨rfl, hb⟩
  · rw [if_neg hs] at h
    cases h
end Go.Proofs.Ytejempihaknplaa.G
