/- Encode of package node: a node's kind and bytes. Whatever lay lies as it lay. Condition: at most 100000 elements in each list. -/
import Derived.Test.YtejempihaknplaaHSize
import Derived.Test.YtejempihaknplaaHBuild
namespace Go.Proofs.Ytejempihaknplaa.G
open Go.RowKit Go.Shelf Go.Proofs.YtejempihaknplaaW.PrintWords Go.Proofs.YtejempihaknplaaW.PrintLast Go.Proofs.YtejempihaknplaaW.PrintMore
set_option linter.unusedVariables false
attribute [local go_sem] Oper.semAt_some

/-! ### the bytes, part by part -/
def partB (q : ByteArray × ByteArray × Int) : List UInt8 := if q.2.2 = 0 then textB q.1 ++ textB q.2.1 else if q.1.size = 0 then be4 q.2.2 else textB q.1 ++ be4 q.2.2
def headB (L : List (ByteArray × ByteArray × Int)) (k : Nat) : List UInt8 := (L.take k).flatMap partB
theorem headB_succ (L : List (ByteArray × ByteArray × Int)) (k : Nat) (q : ByteArray × ByteArray × Int) (h : L[k]? = some q) : headB L (k + 1) = headB L k ++ partB q := by
  obtain ⟨hk, rfl⟩ := List.getElem?_eq_some_iff.1 h
  unfold headB
  rw [List.take_succ_eq_append_getElem hk, List.flatMap_append]
  simp
theorem be4_length (d : Int) : (be4 d).length = 4 := rfl
theorem textB_length (s : ByteArray) : (textB s).length = 1 + s.size := by
  simp only [textB, List.length_cons, ba_length]
  omega
theorem partB_le {q : ByteArray × ByteArray × Int} (h : PartOk q) : (partB q).length ≤ 86 := by
  obtain ⟨h1, h2, _⟩ := h
  unfold partB
  split
  · rw [List.length_append, textB_length, textB_length]; omega
  · split
    · rw [be4_length]; omega
    · rw [List.length_append, textB_length, be4_length]; omega
theorem headB_le (L : List (ByteArray × ByteArray × Int)) (h : ∀ q ∈ L, PartOk q) : ∀ k, (headB L k).length ≤ 86 * k
  | 0 => by simp [headB]
  | k + 1 => by
    have ih := headB_le L h k
    by_cases hk : k < L.length
    · rw [headB_succ L k L[k] (List.getElem?_eq_getElem hk), List.length_append]
      have := partB_le (h L[k] (List.getElem_mem hk))
      omega
    · have e : headB L (k + 1) = headB L k := by
        unfold headB
        rw [List.take_of_length_le (by omega), List.take_of_length_le (by omega)]
      rw [e]
      omega
theorem kid_lt {ps : List S39} {ks : List ByteArray} {kd : List Int} (h : rightB ps ks kd = true) : ∀ q ∈ partsL ps ks kd, q.2.2 < 16384 := by
  intro q hq
  simp only [partsL, List.mem_append, List.mem_map] at hq
  rcases hq with ⟨p, _, rfl⟩ | ⟨⟨d, i⟩, hd, rfl⟩
  · show (0 : Int) < 16384
    omega
  · have hm := List.mem_zipIdx hd
    rcases right_or h with h | h
    · obtain ⟨_, rfl, _⟩ := leaf_facts h
      simp at hd
    · obtain ⟨_, _, _, _, h4, _⟩ := branch_facts h
      have := h4 d (by rw [hm.2.2]; exact List.getElem_mem _)
      simp only [kidOk, Bool.and_eq_true, decide_eq_true_eq] at this
      exact this.2
theorem bytes_parts {ps : List S39} {ks : List ByteArray} {kd : List Int} (h : rightB ps ks kd = true) : bytesN ps ks kd = byteOf (ps.length + kd.length) :: headB (partsL ps ks kd) (ps.length + kd.length) := by
  unfold headB
  rw [List.take_of_length_le (by rw [partsL_length]; omega)]
  rcases right_or h with h | h
  · obtain ⟨rfl, rfl, _, _⟩ := leaf_facts h
    simp only [bytesN, List.isEmpty_nil, if_true, List.length_nil, Nat.add_zero, partsL, List.zipIdx_nil, List.map_nil, List.append_nil, pairsB, List.flatMap_map]
    rfl
  · obtain ⟨rfl, h1, _, h3, h4, h5, _⟩ := branch_facts h
    cases kd with
    | nil => simp at h1
    | cons d0 r =>
      simp only [bytesN, List.isEmpty_cons, Bool.false_eq_true, if_false, List.length_nil, Nat.zero_add, partsL, List.map_nil, List.nil_append, List.headD_cons, List.tail_cons]
      congr 1
      have hlen : ks.length = r.length := by simpa using h3
      have hd0 := h4 d0 (List.mem_cons_self)
      simp only [kidOk, Bool.and_eq_true, decide_eq_true_eq] at hd0
      rw [List.zipIdx_cons, List.map_cons, List.flatMap_cons]
      congr 1
      · show be4 d0 = partB (partK ks 0, ⟨#[]⟩, d0)
        unfold partB
        rw [if_neg (by show ¬ d0 = 0; omega), if_pos (show (partK ks 0).size = 0 from rfl)]
      · unfold partsB
        have e : (r.zipIdx (0 + 1)).map (fun x => (partK ks x.2, (⟨#[]⟩ : ByteArray), x.1)) = (ks.zip r).map (fun x => (x.1, (⟨#[]⟩ : ByteArray), x.2)) := by
          apply List.ext_getElem
          · simp [hlen]
          · intro i g1 g2
            have hi : i < r.length := by simpa using g1
            have hik : i < ks.length := by omega
            simp [partK, List.getElem?_eq_getElem hik]
        rw [e, List.flatMap_map]
        have fc : ∀ (l : List (ByteArray × Int)), (∀ x ∈ l, textB x.1 ++ be4 x.2 = partB (x.1, ⟨#[]⟩, x.2)) → l.flatMap (fun x => textB x.1 ++ be4 x.2) = l.flatMap (fun x => partB (x.1, ⟨#[]⟩, x.2)) := by
          intro l
          induction l with
          | nil => intro _; rfl
          | cons x l ih =>
            intro hh
            rw [List.flatMap_cons, List.flatMap_cons, hh x (List.mem_cons_self), ih (fun y hy => hh y (List.mem_cons_of_mem _ hy))]
        refine fc _ ?_
        rintro ⟨k, d⟩ hx
        have hk := h5 k (List.of_mem_zip hx).1
        have hd := h4 d (List.mem_cons_of_mem _ (List.of_mem_zip hx).2)
        simp only [kOk, kidOk, Bool.and_eq_true, decide_eq_true_eq] at hk hd
        show textB k ++ be4 d = partB (k, ⟨#[]⟩, d)
        unfold partB
        rw [if_neg (by show ¬ d = 0; omega), if_neg (by show ¬ k.size = 0; omega)]
theorem bytes_length {ps : List S39} {ks : List ByteArray} {kd : List Int} (h : rightB ps ks kd = true) : (bytesN ps ks kd).length = sizeN ps ks kd := by
  obtain ⟨_, _, f3, f4⟩ := right_facts h
  rw [bytes_parts h, ← f4, List.length_cons]
  have key : ∀ k, k ≤ ps.length + kd.length → 1 + (headB (partsL ps ks kd) k).length = totN (partsL ps ks kd) k := by
    intro k
    induction k with
    | zero => intro _; rw [totN_zero]; simp [headB]
    | succ k ih =>
      intro hk
      have hlt : k < (partsL ps ks kd).length := by rw [partsL_length]; omega
      rw [headB_succ _ k _ (List.getElem?_eq_getElem hlt), totN_succ _ k _ (List.getElem?_eq_getElem hlt), ← ih (by omega), List.length_append]
      have e : (partB (partsL ps ks kd)[k]).length = szAt k (partsL ps ks kd)[k] := by
        unfold partB szAt
        split
        · rw [List.length_append, textB_length, textB_length]; omega
        · rename_i h0
          rcases right_or h with h | h
          · obtain ⟨rfl, rfl, _⟩ := leaf_facts h
            exfalso
            apply h0
            simp [partsL]
          · obtain ⟨rfl, h1, _, h3, h4, h5, _⟩ := branch_facts h
            have hk2 : k < kd.length := by simp only [List.length_nil] at hk; omega
            have hq := partsL_kid [] ks kd k hk2
            rw [List.length_nil, Nat.zero_add, List.getElem?_eq_getElem hlt] at hq
            have hq2 := Option.some.inj hq
            rw [hq2]
            show (if (partK ks k).size = 0 then be4 kd[k] else textB (partK ks k) ++ be4 kd[k]).length = if k = 0 then 4 else 5 + (partK ks k).size
            by_cases hk0 : k = 0
            · rw [if_pos hk0, if_pos (by rw [hk0]; rfl)]
              rfl
            · have hks : k - 1 < ks.length := by omega
              have hpk : partK ks k = ks[k - 1] := by
                unfold partK
                rw [if_neg hk0, List.getD_eq_getElem?_getD, List.getElem?_eq_getElem hks]
                rfl
              have := h5 _ (List.getElem_mem hks)
              simp only [kOk, Bool.and_eq_true, decide_eq_true_eq] at this
              rw [hpk, if_neg (by omega), if_neg hk0, List.length_append, textB_length, be4_length]
              omega
      omega
  have := key _ (Nat.le_refl _)
  omega

set_option maxHeartbeats 1000000 in
theorem encode_no (A0_0 : Option Addr) (c0_0 : Nat) (l0_0 : List S39) (A0_1 : Option Addr) (c0_1 : Nat) (l0_1 : List ByteArray) (A0_2 : Option Addr) (c0_2 : Nat) (l0_2 : List Int) (w : World) (hr0_0 : Kd.C k39 w A0_0 l0_0.length l0_0) (hc0_0 : l0_0.length ≤ c0_0) (hr0_1 : Kd.C Kd.string w A0_1 l0_1.length l0_1) (hc0_1 : l0_1.length ≤ c0_1) (hr0_2 : Kd.C (Kd.int .u32) w A0_2 l0_2.length l0_2) (hc0_2 : l0_2.length ≤ c0_2)
    (hs : smallB l0_0 l0_1 l0_2 = true) (hf : fitsB l0_0 l0_1 l0_2 = false) :
    Calls Try.prog 12 #[.agg #[.slice A0_0 l0_0.length c0_0, .slice A0_1 l0_1.length c0_1, .slice A0_2 l0_2.length c0_2]] w fun e w' => e = .returned (.tuple #[.int .i64 0, .string ⟨#[]⟩, .int .i64 60]) ∧ Below w.heap.size w w' := by
  have hsf : node_Size.f l0_0 l0_1 l0_2 = some (if rightB l0_0 l0_1 l0_2 = true then (sizeN l0_0 l0_1 l0_2 : Int) else 0) := by unfold node_Size.f; rw [if_pos hs]
  have H := Lib.hid (fun W => fun hb : Below w.heap.size w W => node_Size.calls A0_0 c0_0 l0_0 A0_1 c0_1 l0_1 A0_2 c0_2 l0_2 _ W (Kd.C_below hr0_0 hb) hc0_0 (Kd.C_below hr0_1 hb) hc0_1 (Kd.C_below hr0_2 hb) hc0_2 hsf)
  have HB := Lib.hid ((Below.refl w.heap.size w).alloc (Nat.le_refl _) (.cells #[.slice A0_0 l0_0.length c0_0, .slice A0_1 l0_1.length c0_1, .slice A0_2 l0_2.length c0_2] 26))
  have hn : (if rightB l0_0 l0_1 l0_2 = true then (sizeN l0_0 l0_1 l0_2 : Int) else 0) = 0 ∨ (237 < (if rightB l0_0 l0_1 l0_2 = true then (sizeN l0_0 l0_1 l0_2 : Int) else 0)) := by
    cases hr : rightB l0_0 l0_1 l0_2 with
    | false => exact .inl (by simp)
    | true =>
      refine .inr ?_
      simp only [if_true]
      simp only [fitsB, hr, Bool.true_and, decide_eq_false_iff_not] at hf
      omega
  generalize (if rightB l0_0 l0_1 l0_2 = true then (sizeN l0_0 l0_1 l0_2 : Int) else 0) = n at *
  clear hr0_0 hc0_0 hr0_1 hc0_1 hr0_2 hc0_2 hs hf hsf
  rcases hn with rfl | hn
  · go_enter Try.func12, Try.ntmps12
    go_wp2_with fail
    refine (H.out _ HB.out).mono ?_
    rintro e w1 ⟨rfl, hb1⟩
    go_wp2
    go_ret3
    exact ⟨rfl, bl_tr HB.out hb1⟩
  · have d0 : (n == 0) = false := by rw [beq_eq_false_iff_ne]; omega
    go_enter Try.func12, Try.ntmps12
    go_wp2_with fail
    refine (H.out _ HB.out).mono ?_
    rintro e w1 ⟨rfl, hb1⟩
    go_wp2
    go_ret3
    exact ⟨rfl, bl_tr HB.out hb1⟩

/-! ### what stands in memory while the parts are written -/
theorem Wr.move {B b : Nat} {l : List UInt8} {w w' : World} (h : Wr B b l w) (hm : ∀ k, k = b ∨ (∃ c fz, w.heap[k]? = some (.cells c 5 fz)) → w'.heap[k]? = w.heap[k]?) : Wr B b l w' := by
  have key : ∀ p, Lib.BuilderAt 58 5 B b p (Lib.byteCells l) w → Lib.BuilderAt 58 5 B b p (Lib.byteCells l) w' := by
    rintro p ⟨hB, v, hb, hown, hne⟩
    exact ⟨hB, v, (hm b (.inl rfl)).trans hb, own_move hown (fun k hk => hm k (.inr (own_kind hown k hk))), hne⟩
  exact h.elim (fun x => .inl (key _ x)) (fun x => .inr (key _ x))
theorem Wr.lt {B b : Nat} {l : List UInt8} {w : World} (h : Wr B b l w) : b < w.heap.size := h.elim (fun x => x.lt) (fun x => x.lt)
/-- The writer (block M), its variable, the node (twice), the loop's record, what was deferred. -/
structure EncInv (w : World) (M M2 : Nat) (C : Array Value) (o : Obj) (bytes : List UInt8) (W : World) : Prop where
  wr : Wr w.heap.size M bytes W
  var : Blk W (M + 1) 52 #[.pointer (some ⟨M, 0, none⟩)]
  node : Blk W w.heap.size 26 C
  copy : Blk W M2 26 C
  loop : W.heap[M2 + 1 + 1]? = some o
  defd : W.heap[M2 + 1]? = some (.deferred (some []))
  below : Below w.heap.size w W
section
variable {w : World} {M M2 : Nat} {C : Array Value} {o : Obj} {bytes : List UInt8} {W : World}
theorem EncInv.alloc (h : EncInv w M M2 C o bytes W) (x : Obj) : EncInv w M M2 C o bytes (W.alloc x) :=
  ⟨h.wr.move (fun k hk => Below.heap_alloc _ _ _ (by
    rcases hk with rfl | ⟨c, fz, hk⟩
    · exact h.wr.lt
    · exact (Array.getElem?_eq_some_iff.1 hk).1)), h.var.alloc x, h.node.alloc x, h.copy.alloc x,
   (Below.heap_alloc _ _ _ (Array.getElem?_eq_some_iff.1 h.loop).1).trans h.loop, (Below.heap_alloc _ _ _ (Array.getElem?_eq_some_iff.1 h.defd).1).trans h.defd, bl_al h.below x⟩
theorem EncInv.put (h : EncInv w M M2 C o bytes W) (ho : ∀ c t fz, o ≠ .cells c t fz) (x : Obj) (h1 : M < M2) (h2 : w.heap.size < M2) (h3 : M + 1 < M2) : EncInv w M M2 C x bytes (W.putObj (M2 + 1 + 1) x) :=
  ⟨h.wr.move (fun k hk => World.putObj_heap_other (by
    rcases hk with rfl | ⟨c, fz, hk⟩
    · omega
    · rintro rfl
      rw [h.loop] at hk
      exact ho _ _ _ (Option.some.inj hk))), h.var.putObj (by omega) x, h.node.putObj (by omega) x, h.copy.putObj (by omega) x,
   World.putObj_heap_same (Array.getElem?_eq_some_iff.1 h.loop).1, (World.putObj_heap_other (by omega)).trans h.defd, below_putObj h.below (by omega) x⟩
theorem EncInv.step (h : EncInv w M M2 C o bytes W) (ho : ∀ c t fz, o ≠ .cells c t fz) (h1 : M < M2) (h2 : w.heap.size < M) {W' : World} {bytes' : List UInt8} (hw : Wr w.heap.size M bytes' W') (hb : Below w.heap.size W W') (hk : Lib.OthersKept 5 (some M) W W') : EncInv w M M2 C o bytes' W' :=
  ⟨hw, hk _ _ h.var (by simp) (by intro c fz e; cases e), hk _ _ h.node (by simp; omega) (by intro c fz e; cases e), hk _ _ h.copy (by simp; omega) (by intro c fz e; cases e), hk _ _ h.loop (by simp; omega) (fun c fz => ho c _ fz), hk _ _ h.defd (by simp; omega) (by intro c fz e; cases e), h.below.trans hb⟩
end

set_option maxRecDepth 100000 in
set_option maxHeartbeats 4000000 in
theorem encode_yes (A0_0 : Option Addr) (c0_0 : Nat) (l0_0 : List S39) (A0_1 : Option Addr) (c0_1 : Nat) (l0_1 : List ByteArray) (A0_2 : Option Addr) (c0_2 : Nat) (l0_2 : List Int) (w : World) (hr0_0 : Kd.C k39 w A0_0 l0_0.length l0_0) (hc0_0 : l0_0.length ≤ c0_0) (hr0_1 : Kd.C Kd.string w A0_1 l0_1.length l0_1) (hc0_1 : l0_1.length ≤ c0_1) (hr0_2 : Kd.C (Kd.int .u32) w A0_2 l0_2.length l0_2) (hc0_2 : l0_2.length ≤ c0_2)
    (hs : smallB l0_0 l0_1 l0_2 = true) (hr : rightB l0_0 l0_1 l0_2 = true) (hz : sizeN l0_0 l0_1 l0_2 ≤ 237) :
    Calls Try.prog 12 #[.agg #[.slice A0_0 l0_0.length c0_0, .slice A0_1 l0_1.length c0_1, .slice A0_2 l0_2.length c0_2]] w fun e w' => e = .returned (.tuple #[.int .i64 (if l0_2.isEmpty then 1 else 2), .string ⟨(bytesN l0_0 l0_1 l0_2).toArray⟩, .int .i64 0]) ∧ Below w.heap.size w w' := by
  obtain ⟨kn, hkn⟩ : ∃ kn : Int, (if l0_2.isEmpty = true then (1 : Int) else 2) = kn := ⟨_, rfl⟩
  rw [hkn]
  have HKN := Lib.hid hkn
  clear hkn
  obtain ⟨f1, f2, f3, f4⟩ := right_facts hr
  have f5 := kid_lt hr
  have f6 := bytes_parts hr
  have hz0 : 1 ≤ sizeN l0_0 l0_1 l0_2 := by unfold sizeN; split <;> omega
  have hsf : node_Size.f l0_0 l0_1 l0_2 = some (sizeN l0_0 l0_1 l0_2 : Int) := by unfold node_Size.f; rw [if_pos hs, if_pos hr]
  have H := Lib.hid (fun W => fun hb : Below w.heap.size w W => node_Size.calls A0_0 c0_0 l0_0 A0_1 c0_1 l0_1 A0_2 c0_2 l0_2 _ W (Kd.C_below hr0_0 hb) hc0_0 (Kd.C_below hr0_1 hb) hc0_1 (Kd.C_below hr0_2 hb) hc0_2 hsf)
  have HB := Lib.hid ((Below.refl w.heap.size w).alloc (Nat.le_refl _) (.cells #[.slice A0_0 l0_0.length c0_0, .slice A0_1 l0_1.length c0_1, .slice A0_2 l0_2.length c0_2] 26))
  have HC := Lib.hid (And.intro hr0_0 (And.intro hr0_1 (And.intro hr0_2 f1)))
  have HF := Lib.hid (And.intro f2 (And.intro f3 (And.intro f5 f6)))
  have HX := Lib.hid (Blk.new w 26 #[.slice A0_0 l0_0.length c0_0, .slice A0_1 l0_1.length c0_1, .slice A0_2 l0_2.length c0_2])
  have d0 : ((sizeN l0_0 l0_1 l0_2 : Int) == 0) = false := by rw [beq_eq_false_iff_ne]; omega
  have d1 : ¬ (237 : Int) < (sizeN l0_0 l0_1 l0_2 : Int) := by omega
  generalize sizeN l0_0 l0_1 l0_2 = sz at *
  clear hr0_0 hc0_0 hr0_1 hc0_1 hr0_2 hc0_2 hs hr f1 f2 f3 f4 f5 f6 hsf hz0 hz
  refine (callsIn_wide (n := 9)).1 (callsIn_of_wp_marks Try.func12 rfl trivial ?_ rfl)
  simp only [Try.ntmps12, List.size_toArray, List.length_cons, List.length_nil, Nat.reduceAdd, Nat.reduceSub, Array.replicate_succ, Array.replicate_zero, List.push_toArray, List.append_toArray, List.nil_append, List.cons_append]
  refine wpIn_wide.2 ?_
  go_wp2_with fail
  refine (H.out _ HB.out).mono ?_
  rintro e w1 ⟨rfl, hb1⟩
  have hx1 := HX.out.below hb1 (by simp)
  have c0 : w1.cell? ⟨w.heap.size, 0, none⟩ = some (.slice A0_0 l0_0.length c0_0) := hx1.cell 0
  have c1 : w1.cell? ⟨w.heap.size, 1, none⟩ = some (.slice A0_1 l0_1.length c0_1) := hx1.cell 1
  have c2 : w1.cell? ⟨w.heap.size, 2, none⟩ = some (.slice A0_2 l0_2.length c0_2) := hx1.cell 2
  have hlt : w.heap.size < w1.heap.size := by have := hb1.size; simp at this; omega
  have hlt2 : w.heap.size < w1.heap.size + 1 := by omega
  have HB1 := Lib.hid (And.intro (bl_tr HB.out hb1) hx1)
  have hcl : (l0_0.length : Int) + (l0_2.length : Int) ≤ 255 := by have := HF.out.1; omega
  have hcn : ((byteOf (l0_0.length + l0_2.length)).toNat : Int) = (l0_0.length : Int) + (l0_2.length : Int) := by rw [byteOf_int _ HF.out.1]; omega
  have HCN := Lib.hid hcn
  clear hx1 hb1 hcn
  go_wp2_with fail
  have kb : Wr w.heap.size w1.heap.size [] ((w1.alloc (.cells #[.pointer none, .slice none 0 0] 58)).alloc (.cells #[.pointer (some ⟨w1.heap.size, 0, none⟩)] 52)) :=
    .inl ⟨by omega, .slice none 0 0, (Blk.new w1 _ _).alloc _, World.ownsRow_nil _ _ _ _, by simp [Value.ownBlock]⟩
  have k6 : Blk ((w1.alloc (.cells #[.pointer none, .slice none 0 0] 58)).alloc (.cells #[.pointer (some ⟨w1.heap.size, 0, none⟩)] 52)) (w1.heap.size + 1) 52 #[.pointer (some ⟨w1.heap.size, 0, none⟩)] := by
    have := Blk.new (w1.alloc (.cells #[.pointer none, .slice none 0 0] 58)) 52 #[.pointer (some ⟨w1.heap.size, 0, none⟩)]
    rw [World.size_alloc] at this
    exact this
  have kn : Blk ((w1.alloc (.cells #[.pointer none, .slice none 0 0] 58)).alloc (.cells #[.pointer (some ⟨w1.heap.size, 0, none⟩)] 52)) w.heap.size 26 #[.slice A0_0 l0_0.length c0_0, .slice A0_1 l0_1.length c0_1, .slice A0_2 l0_2.length c0_2] := (HB1.out.2.alloc _).alloc _
  have kB : Below w.heap.size w ((w1.alloc (.cells #[.pointer none, .slice none 0 0] 58)).alloc (.cells #[.pointer (some ⟨w1.heap.size, 0, none⟩)] 52)) := bl_al (bl_al HB1.out.1 _) _
  have ksz5 : ((w1.alloc (.cells #[.pointer none, .slice none 0 0] 58)).alloc (.cells #[.pointer (some ⟨w1.heap.size, 0, none⟩)] 52)).heap.size = w1.heap.size + 2 := by simp
  generalize ((w1.alloc (.cells #[.pointer none, .slice none 0 0] 58)).alloc (.cells #[.pointer (some ⟨w1.heap.size, 0, none⟩)] 52)) = W5 at *
  clear c0 c1 c2 HB1 hlt2 H HB HX d0
  generalize w1.heap.size = M at *
  clear w1
  have g6 : W5.cell? ⟨M + 1, 0, none⟩ = some (.pointer (some ⟨M, 0, none⟩)) := k6.cell 0
  have n0 : W5.cell? ⟨w.heap.size, 0, none⟩ = some (.slice A0_0 l0_0.length c0_0) := kn.cell 0
  have n2 : W5.cell? ⟨w.heap.size, 2, none⟩ = some (.slice A0_2 l0_2.length c0_2) := kn.cell 2
  have i0 : (0 : Int) ≤ (l0_0.length : Int) := by omega
  have i2 : (0 : Int) ≤ (l0_2.length : Int) := by omega
  have hwb := wbyte_any w.heap.size M [] (byteOf (l0_0.length + l0_2.length)) W5.drew kb (by simp) (by have := kB.size; exact this)
  rw [HCN.out] at hwb
  have HWB := Lib.hid hwb
  have HK := Lib.hid (And.intro kb (And.intro k6 (And.intro kn kB)))
  have HS5 := Lib.hid (And.intro ksz5 hlt)
  clear kb k6 kn kB ksz5 hlt hwb
  go_still_tail 11, (by kernel_rfl)
  change wpList _ _ _ _ _ W5.drew
  go_wp2_with fail
  refine HWB.out.mono ?_
  rintro e w2 ⟨rfl, h2, hb2, hk2⟩
  have hM := HS5.out.2
  have k6 : Blk w2 (M + 1) 52 #[.pointer (some ⟨M, 0, none⟩)] := hk2 _ _ HK.out.2.1 (by simp) (by intro c fz e; cases e)
  have kn : Blk w2 w.heap.size 26 #[.slice A0_0 l0_0.length c0_0, .slice A0_1 l0_1.length c0_1, .slice A0_2 l0_2.length c0_2] := hk2 _ _ HK.out.2.2.1 (by simp; omega) (by intro c fz e; cases e)
  have kB : Below w.heap.size w w2 := HK.out.2.2.2.drew.trans hb2
  have m0 : w2.cell? ⟨w.heap.size, 0, none⟩ = some (.slice A0_0 l0_0.length c0_0) := kn.cell 0
  have m1 : w2.cell? ⟨w.heap.size, 1, none⟩ = some (.slice A0_1 l0_1.length c0_1) := kn.cell 1
  have m2 : w2.cell? ⟨w.heap.size, 2, none⟩ = some (.slice A0_2 l0_2.length c0_2) := kn.cell 2
  have hsz : M + 2 ≤ w2.heap.size := by have h := hb2.size; have h2 := HS5.out.1; have h3 : W5.drew.heap.size = W5.heap.size := rfl; omega
  have HK2 := Lib.hid (And.intro h2 (And.intro k6 (And.intro kn (And.intro kB (And.intro hsz hM)))))
  clear h2 hb2 hk2 k6 kn kB hsz HK HWB hM g6 n0 n2 HS5 HCN
  go_wp2_with fail
  refine (parts_any _ _ _ _ _ _ _ _ _ _).mono ?_
  rintro e w3 ⟨rfl, rfl⟩
  go_wp2_with fail
  have ksz : (w2.alloc (.cells #[.slice A0_0 l0_0.length c0_0, .slice A0_1 l0_1.length c0_1, .slice A0_2 l0_2.length c0_2] 26)).heap.size = w2.heap.size + 1 := by simp
  obtain ⟨C, hC⟩ : ∃ C : Array Value, #[.slice A0_0 l0_0.length c0_0, .slice A0_1 l0_1.length c0_1, .slice A0_2 l0_2.length c0_2] = C := ⟨_, rfl⟩
  have hI0 : ∀ rec : LoopState → Option Code → Obj, EncInv w M w2.heap.size C (rec .ready none) [byteOf (l0_0.length + l0_2.length)] (((w2.alloc (.cells #[.slice A0_0 l0_0.length c0_0, .slice A0_1 l0_1.length c0_1, .slice A0_2 l0_2.length c0_2] 26)).alloc (.deferred (some []))).alloc (rec .ready none)) := by
    intro rec
    rw [hC]
    obtain ⟨j1, j2, j3, j4, j5, j6⟩ := HK2.out
    rw [hC] at j3
    have q1 : Wr w.heap.size M [byteOf (l0_0.length + l0_2.length)] (((w2.alloc (.cells C 26)).alloc (.deferred (some []))).alloc (rec .ready none)) := j1.move (fun k hk => by
      have hlt : k < w2.heap.size := by
        rcases hk with rfl | ⟨c, fz, hk⟩
        · exact j1.lt
        · exact (Array.getElem?_eq_some_iff.1 hk).1
      exact (Below.heap_alloc _ _ _ (by simp; omega)).trans ((Below.heap_alloc _ _ _ (by simp; omega)).trans (Below.heap_alloc _ _ _ hlt)))
    refine ⟨q1, ((j2.alloc _).alloc _).alloc _, ((j3.alloc _).alloc _).alloc _, ((Blk.new w2 _ _).alloc _).alloc _, ?_, ?_, bl_al (bl_al (bl_al j4 _) _) _⟩
    · have := World.alloc_heap_new ((w2.alloc (.cells C 26)).alloc (.deferred (some []))) (rec .ready none)
      rw [World.size_alloc, World.size_alloc] at this
      exact this
    · have := World.alloc_heap_new (w2.alloc (.cells C 26)) (.deferred (some []))
      rw [World.size_alloc] at this
      exact (Below.heap_alloc _ _ _ (by simp)).trans this
  have hM : w.heap.size < M ∧ M + 1 < w2.heap.size := by have h := HK2.out; exact ⟨h.2.2.2.2.2, by have := h.2.2.2.2.1; omega⟩
  generalize (w2.alloc (.cells #[.slice A0_0 l0_0.length c0_0, .slice A0_1 l0_1.length c0_1, .slice A0_2 l0_2.length c0_2] 26)) = W0 at *
  clear m0 m1 m2 HK2
  generalize w2.heap.size = M2 at *
  clear w2
  refine (wpIn_wide (n := 9)).1 ?_
  refine wpIn_rf rfl (fun h => by cases h) (gf := 60) (lb := #[.pointer (some ⟨M2, 0, none⟩)]) rfl trivial (enters_of Try.func60 (by kernel_rfl) rfl) ?_
  intro fn rec _ hrec
  have hI := hI0 rec
  clear hI0
  have hnc : ∀ (s : LoopState) (pe : Option Code) c t fz, rec s pe ≠ .cells c t fz := by
    intro s pe c t fz e
    rw [hrec] at e
    cases e
  obtain ⟨L, hL⟩ : ∃ L, partsL l0_0 l0_1 l0_2 = L := ⟨_, rfl⟩
  refine (parts1_in (9 - 1) (W0.heap.size + 1) M2 A0_0 c0_0 l0_0 A0_1 c0_1 l0_1 A0_2 c0_2 l0_2 w HC.out.1 HC.out.2.1 HC.out.2.2.1 HC.out.2.2.2
    (fun k W => EncInv w M M2 C (rec .ready none) (byteOf (l0_0.length + l0_2.length) :: headB L k) W)
    (fun k W o h => h.alloc o) (fun k W h => h.below) (fun k W h => by rw [hC]; exact h.copy) ?hY _ hI).mono ?fin
  case hY =>
    rintro k W q hq hJ
    rw [hL] at hq
    have hok := HF.out.2.1 q (by rw [hL]; exact List.mem_of_getElem? hq)
    have hkd := HF.out.2.2.1 q (by rw [hL]; exact List.mem_of_getElem? hq)
    have hkl : k ≤ 255 := by
      have h1 := (List.getElem?_eq_some_iff.1 hq).1
      rw [← hL, partsL_length] at h1
      have := HF.out.1
      omega
    have hts := headB_succ L k q hq
    have htl := headB_le L (by rw [← hL]; exact HF.out.2.1) k
    obtain ⟨s1, s2, d⟩ := q
    obtain ⟨p1, p2, p3⟩ := hok
    change s1.size ≤ 24 at p1
    change s2.size ≤ 60 at p2
    change 0 ≤ d at p3
    change d < 16384 at hkd
    have hdl := (Array.getElem?_eq_some_iff.1 hJ.loop).1
    have hl0 := hJ.loop
    rw [← ksz] at hl0 hdl
    refine yieldAt_of hrec trivial hl0 rfl ?_
    have HR := Lib.hid hrec
    have HQ := Lib.hid (And.intro hts htl)
    clear hrec hts hq hL htl hI
    rw [ksz] at hl0 hdl ⊢
    rw [show partV (s1, s2, d) = #[.string s1, .string s2, .int .u32 d] from rfl]
    have f0 := (hJ.alloc (.cells #[.string s1, .string s2, .int .u32 d] 67)).put (hnc _ _) (rec .busy none) (by omega) (by omega) hM.2
    have f1 : Blk ((W.alloc (.cells #[.string s1, .string s2, .int .u32 d] 67)).putObj (M2 + 1 + 1) (rec .busy none)) W.heap.size 67 #[.string s1, .string s2, .int .u32 d] := (Blk.new W _ _).putObj (by omega) _
    have HJ := Lib.hid hJ
    clear hJ
    gi_wp2
    refine ⟨(Below.heap_alloc _ _ _ hdl).trans hl0, ?_⟩
    generalize (W.alloc (.cells #[.string s1, .string s2, .int .u32 d] 67)).putObj (M2 + 1 + 1) (rec .busy none) = W1 at *
    have g1 : W1.cell? ⟨W.heap.size, 0, none⟩ = some (.string s1) := f1.cell 0
    have g2 : W1.cell? ⟨W.heap.size, 1, none⟩ = some (.string s2) := f1.cell 1
    have g3 : W1.cell? ⟨W.heap.size, 2, none⟩ = some (.int .u32 d) := f1.cell 2
    have g4 : W1.cell? ⟨M + 1, 0, none⟩ = some (.pointer (some ⟨M, 0, none⟩)) := f0.var.cell 0
    have g5 := f1.lt
    have hsw : w.heap.size ≤ W1.heap.size := f0.below.size
    have hlen : (byteOf (l0_0.length + l0_2.length) :: headB L k).length ≤ 30000 := by rw [List.length_cons]; have := HQ.out.2; omega
    have hM1 : M < W1.heap.size := f0.wr.lt
    have hMW : M < W.heap.size := HJ.out.wr.lt
    by_cases hd0 : d = 0
    · subst hd0
      have hA := wtexts_any w.heap.size M W1.heap.size 2 (byteOf (l0_0.length + l0_2.length) :: headB L k) [s1, s2] (W1.alloc (.cells #[.string s1, .string s2] 9)) (f0.alloc _).wr (by simp only [List.length_cons, List.length_nil] at hlen ⊢; omega) (by simp; omega)
        (by intro s hs; simp at hs; rcases hs with rfl | rfl <;> omega) (by omega) (Blk.new W1 _ _)
      have HA := Lib.hid hA
      have HP := Lib.hid f0
      have hby : byteOf (l0_0.length + l0_2.length) :: headB L (k + 1) = byteOf (l0_0.length + l0_2.length) :: headB L k ++ textsB [s1, s2] := by
        rw [HQ.out.1]
        simp [partB, textsB]
      have HY := Lib.hid hby
      clear hA f0 f1 hlen hby hl0 hdl hsw
      gi_wp2_with fail
      refine ⟨trivial, ((callsIn_wide.2 HA.out).inRound _).mono ?_⟩
      rintro e w3 ⟨rfl, h3, hb3, hk3⟩
      have s3 := (HP.out.alloc (.cells #[.string s1, .string s2] 9)).step (hnc _ _) (by omega) hM.1 h3 hb3 hk3
      have HS := Lib.hid s3
      clear s3 h3 hb3 hk3
      gi_wp2
      refine ⟨HS.out.loop, rfl, ?_⟩
      rw [HY.out]
      exact HS.out.put (hnc _ _) (rec .ready none) (by omega) (by omega) hM.2
    · have hd1 : ((d : Int) == 0) = false := by rw [beq_eq_false_iff_ne]; exact hd0
      by_cases hs1 : s1.size = 0
      · have e1 : s1 = ⟨#[]⟩ := by
          have : s1.data.toList = [] := List.eq_nil_of_length_eq_zero (by rw [ba_length]; exact hs1)
          exact ba_ext (by rw [this])
        have hB := fun W' (h : EncInv w M M2 C (rec .busy none) (byteOf (l0_0.length + l0_2.length) :: headB L k) W') => wkid_any w.heap.size M (byteOf (l0_0.length + l0_2.length) :: headB L k) d W' h.wr (by omega) h.below.size p3 (by omega)
        have HBB := Lib.hid hB
        have HP := Lib.hid f0
        have hby : byteOf (l0_0.length + l0_2.length) :: headB L (k + 1) = byteOf (l0_0.length + l0_2.length) :: headB L k ++ be4 d := by
          rw [HQ.out.1]
          unfold partB
          rw [if_neg hd0, if_pos hs1]
          simp
        have HY := Lib.hid hby
        subst e1
        clear hB f0 f1 hlen hby hl0 hdl hsw hs1 hd0
        gi_wp2_with fail
        refine ⟨trivial, ((callsIn_wide.2 (HBB.out _ HP.out)).inRound _).mono ?_⟩
        rintro e w3 ⟨rfl, h3, hb3, hk3⟩
        have s3 := HP.out.step (hnc _ _) (by omega) hM.1 h3 hb3 hk3
        have HS := Lib.hid s3
        clear s3 h3 hb3 hk3
        gi_wp2
        refine ⟨HS.out.loop, rfl, ?_⟩
        rw [HY.out]
        exact HS.out.put (hnc _ _) (rec .ready none) (by omega) (by omega) hM.2
      · have e1 : ¬ s1.toList = [] := by
          rw [ByteArray.toList_eq]
          intro h
          apply hs1
          rw [← ba_length, h]
          rfl
        have e2 : (!s1.toList.isEmpty) = true := by
          cases h : s1.toList with
          | nil => exact absurd h e1
          | cons _ _ => rfl
        have hA := wtexts_any w.heap.size M W1.heap.size 1 (byteOf (l0_0.length + l0_2.length) :: headB L k) [s1] (W1.alloc (.cells #[.string s1] 9)) (f0.alloc _).wr (by simp only [List.length_cons, List.length_nil] at hlen ⊢; omega) (by simp; omega)
          (by intro s hs; simp at hs; rcases hs with rfl; omega) (by omega) (Blk.new W1 _ _)
        have HA := Lib.hid hA
        have hB := fun W' (h : EncInv w M M2 C (rec .busy none) (byteOf (l0_0.length + l0_2.length) :: headB L k ++ textsB [s1]) W') => wkid_any w.heap.size M (byteOf (l0_0.length + l0_2.length) :: headB L k ++ textsB [s1]) d W' h.wr (by rw [List.length_append]; have : (textsB [s1]).length ≤ 256 := textsB_le [s1] (by intro s hs; simp at hs; subst hs; omega); omega) h.below.size p3 (by omega)
        have HBB := Lib.hid hB
        have HP := Lib.hid (And.intro f0 f1)
        have hby : byteOf (l0_0.length + l0_2.length) :: headB L (k + 1) = byteOf (l0_0.length + l0_2.length) :: headB L k ++ textsB [s1] ++ be4 d := by
          rw [HQ.out.1]
          unfold partB
          rw [if_neg hd0, if_neg hs1]
          simp [textsB]
        have HY := Lib.hid hby
        clear hA hB f0 f1 hlen hby hl0 hdl hsw hs1 hd0
        gi_wp2_with fail
        refine ⟨trivial, ((callsIn_wide.2 HA.out).inRound _).mono ?_⟩
        rintro e w3 ⟨rfl, h3, hb3, hk3⟩
        have s3 := (HP.out.1.alloc (.cells #[.string s1] 9)).step (hnc _ _) (by omega) hM.1 h3 hb3 hk3
        have b1 : Blk w3 W.heap.size 67 #[.string s1, .string s2, .int .u32 d] := hk3 _ _ (HP.out.2.alloc _) (by simp; omega) (by intro c fz e; cases e)
        have q3 : w3.cell? ⟨W.heap.size, 2, none⟩ = some (.int .u32 d) := b1.cell 2
        have q4 : w3.cell? ⟨M + 1, 0, none⟩ = some (.pointer (some ⟨M, 0, none⟩)) := s3.var.cell 0
        have HS := Lib.hid s3
        clear s3 h3 hb3 hk3 b1
        gi_wp2_with fail
        refine ⟨trivial, ((callsIn_wide.2 (HBB.out _ HS.out)).inRound _).mono ?_⟩
        rintro e w4 ⟨rfl, h4, hb4, hk4⟩
        have s4 := HS.out.step (hnc _ _) (by omega) hM.1 h4 hb4 hk4
        have HS4 := Lib.hid s4
        clear s4 h4 hb4 hk4
        gi_wp2
        refine ⟨HS4.out.loop, rfl, ?_⟩
        rw [HY.out]
        exact HS4.out.put (hnc _ _) (rec .ready none) (by omega) (by omega) hM.2
  case fin =>
    rintro e W ⟨he, hJ⟩
    refine ⟨he, .ready, none, by simp, by rw [ksz]; exact hJ.loop, ?_⟩
    rw [ksz]
    have h1 := hJ.put (hnc _ _) (rec .exhausted none) (by omega) (by omega) hM.2
    dsimp only
    have hb := HF.out.2.2.2
    rw [hL] at hb
    rw [← hb] at h1
    generalize W.putObj (M2 + 1 + 1) (rec .exhausted none) = W1 at *
    have g4 : W1.cell? ⟨M + 1, 0, none⟩ = some (.pointer (some ⟨M, 0, none⟩)) := h1.var.cell 0
    have hn := h1.node
    rw [← hC] at hn
    have g5 : W1.cell? ⟨w.heap.size, 2, none⟩ = some (.slice A0_2 l0_2.length c0_2) := hn.cell 2
    have HW := Lib.hid (wtext_any w.heap.size M (bytesN l0_0 l0_1 l0_2) W1 h1.wr (by rw [hb]; simp))
    have H1 := Lib.hid h1
    clear h1 hJ hrec hL hC hb hn hI he hnc
    by_cases hk : (0 : Int) < (l0_2.length : Int)
    · have he : kn = 2 := by
        rw [← HKN.out]
        cases l0_2 with
        | nil => simp at hk
        | cons _ _ => rfl
      have HE := Lib.hid he
      clear he
      go_wp2_with fail
      refine HW.out.mono ?_
      rintro e w4 ⟨rfl, hb4, hk4⟩
      have hK : w4.heap[M2 + 1]? = some (.deferred (some [])) := hk4 _ _ H1.out.defd (by simp; omega) (by intro c fz e; cases e)
      have HB4 := Lib.hid (And.intro hK (H1.out.below.trans hb4))
      clear hb4 hk4 hK
      go_wp2
      refine ⟨by simp, .inl ⟨_, _, rfl, run_takeDeferred HB4.out.1, ?_⟩⟩
      exact ⟨_, results_tmp3 rfl _ _ _, by rw [HE.out]; rfl, below_putObj HB4.out.2 (by omega) _⟩
    · have he : kn = 1 := by
        rw [← HKN.out]
        cases l0_2 with
        | nil => rfl
        | cons _ _ => simp at hk
      have HE := Lib.hid he
      clear he
      go_wp2_with fail
      refine HW.out.mono ?_
      rintro e w4 ⟨rfl, hb4, hk4⟩
      have hK : w4.heap[M2 + 1]? = some (.deferred (some [])) := hk4 _ _ H1.out.defd (by simp; omega) (by intro c fz e; cases e)
      have HB4 := Lib.hid (And.intro hK (H1.out.below.trans hb4))
      clear hb4 hk4 hK
      go_wp2
      refine ⟨by simp, .inl ⟨_, _, rfl, run_takeDeferred HB4.out.1, ?_⟩⟩
      exact ⟨_, results_tmp3 rfl _ _ _, by rw [HE.out]; rfl, below_putObj HB4.out.2 (by omega) _⟩

theorem node_Encode.calls (A0_0 : Option Addr) (c0_0 : Nat) (l0_0 : List S39) (A0_1 : Option Addr) (c0_1 : Nat) (l0_1 : List ByteArray) (A0_2 : Option Addr) (c0_2 : Nat) (l0_2 : List Int) (r1 : Int) (r2 : ByteArray) (r3 : Int) (w : World) (hr0_0 : Kd.C k39 w A0_0 l0_0.length l0_0) (hc0_0 : l0_0.length ≤ c0_0) (hr0_1 : Kd.C Kd.string w A0_1 l0_1.length l0_1) (hc0_1 : l0_1.length ≤ c0_1) (hr0_2 : Kd.C (Kd.int .u32) w A0_2 l0_2.length l0_2) (hc0_2 : l0_2.length ≤ c0_2) (h : node_Encode.f l0_0 l0_1 l0_2 = some (r1, r2, r3)) :
    Calls Try.prog 12 #[.agg #[.slice A0_0 l0_0.length c0_0, .slice A0_1 l0_1.length c0_1, .slice A0_2 l0_2.length c0_2]] w fun e w' => e = .returned (.tuple #[.int .i64 r1, .string r2, .int .i64 r3]) ∧ Below w.heap.size w w' := by
  unfold node_Encode.f at h
  by_cases hs : smallB l0_0 l0_1 l0_2 = true
  · rw [if_pos hs] at h
    cases hf : fitsB l0_0 l0_1 l0_2 with
    | true =>
      rw [hf, if_pos rfl] at h
      simp only [Option.some.injEq, Prod.mk.injEq] at h
      obtain ⟨rfl, rfl, rfl⟩ := h
      simp only [fitsB, Bool.and_eq_true, decide_eq_true_eq] at hf
      exact encode_yes A0_0 c0_0 l0_0 A0_1 c0_1 l0_1 A0_2 c0_2 l0_2 w hr0_0 hc0_0 hr0_1 hc0_1 hr0_2 hc0_2 hs hf.1 hf.2
    | false =>
      rw [hf, if_neg (by simp)] at h
      simp only [Option.some.injEq, Prod.mk.injEq] at h
      obtain ⟨rfl, rfl, rfl⟩ := h
      exact encode_no A0_0 c0_0 l0_0 A0_1 c0_1 l0_1 A0_2 c0_2 l0_2 w hr0_0 hc0_0 hr0_1 hc0_1 hr0_2 hc0_2 hs hf
  · rw [if_neg hs] at h
    cases h
end Go.Proofs.Ytejempihaknplaa.G
