/- package disk: Write. -/
import Derived.Test.YtdaoiimjflplhaaDiskB
namespace Go.Proofs.Ytdaoiimjflplhaa
open Go.RowKit Go.Shelf
attribute [local go_sem] Oper.semAt_some
attribute [-go_sem] Instr.build Instr.fill Instr.buildSlice
attribute [local go_sem ↓] Go.wp_at_zero Go.wp_at_succ

theorem foldl_cells (off : Nat) : ∀ (V : List Value) (i : Nat) (A : Array Value), off + i + V.length ≤ A.size →
    ((V.zipIdx i).foldl (fun (cs : Array Value) (x : Value × Nat) => cs.setIfInBounds (off + x.2) x.1) A).toList = A.toList.take (off + i) ++ V ++ A.toList.drop (off + i + V.length)
  | [], i, A, _ => by simp
  | v :: V, i, A, h => by
    simp only [List.zipIdx_cons, List.foldl_cons]
    rw [foldl_cells off V (i + 1) _ (by simp at h ⊢; omega)]
    have e := list_seg_step A.toList (off + i) v V (by simp at h ⊢; omega)
    simp only [List.length_cons, ← e]
    simp [Array.toList_setIfInBounds, Nat.add_assoc]

theorem fill_cells (place : Nat → Option (Nat × Nat)) (i off : Nat) (v : Value) (V : List Value) (hv : v.cells = V.toArray) (A : Array Value) (rest : List (Nat × Value)) (hp : place i = some (off, V.length)) (hA : off + V.length ≤ A.size) :
    Instr.fill place A ((i, v) :: rest) = Instr.fill place (A.toList.take off ++ V ++ A.toList.drop (off + V.length)).toArray rest := by
  have h := foldl_cells off V 0 A (by omega)
  simp only [Nat.add_zero] at h
  rw [Instr.fill, hp, hv]
  have h2 : (decide (V.toArray.size ≠ V.length) || decide (off + V.toArray.size > A.size)) = false := by simp; omega
  simp only [h2]
  rw [if_neg (by simp)]
  congr 1
  apply Array.ext'
  rw [← h]
  simp

theorem run_build_write (a : Int) (cs : List Value) (w : World) (h : cs.length = 64) : (Instr.build 76 #[(0, .int .i64 a), (1, .agg cs.toArray)]).run Try.prog w = .ok (.agg (.int .i64 a :: cs).toArray) w := by
  obtain ⟨i0, hi, hz0, hz1, hz2⟩ := info_parts info_write
  obtain ⟨i1, ki, kz0, kz1, kz2⟩ := info_parts info_sector
  obtain ⟨i2, li, lz0, lz1, lz2⟩ := info_parts (show (Try.prog.info? 3).map (fun i => (i.zero, i.size, i.bytes)) = some (some (.int .i64 0), 1, 8) by kernel_rfl)
  have hf : ∀ A : Array Value, A.size = 65 → Instr.fill (fun x => [(0, 1), (1, 64)][x]?) A [(0, .int .i64 a), (1, .agg cs.toArray)] = some (.int .i64 a :: cs).toArray := by
    intro A hA
    rw [fill_cells _ 0 0 (.int .i64 a) [.int .i64 a] rfl _ _ rfl (by simp; omega), fill_cells _ 1 1 (.agg cs.toArray) cs rfl _ _ (by rw [h]; rfl) (by simp [h]; omega)]
    rw [Instr.fill]
    refine congrArg some (Array.ext' ?_)
    have hd : ∀ l : List Value, l.length ≤ 1 + cs.length → l.drop (1 + cs.length) = [] := fun l hl => List.drop_eq_nil_of_le hl
    have hl : (A.toList.drop 1).length = 64 := by rw [List.length_drop, Array.length_toList, hA]
    simp only [List.take_zero, List.nil_append, Nat.zero_add, List.length_cons, List.length_nil]
    rw [hd _ (by simp only [List.length_append, List.length_cons, List.length_nil, hl, h]; omega)]
    simp
  simp [Instr.build, zeroValue, sizeOf, typeInfo, hi, hz0, ki, kz1, li, lz1, run_underlying Try.underlying76]
  rw [show (Value.agg (#[Value.int .i64 0] ++ Array.replicate 64 (Value.int .u8 0))).cells = #[Value.int .i64 0] ++ Array.replicate 64 (Value.int .u8 0) from rfl, hf _ (by simp)]
  rfl

theorem run_slice_write (cs : List Value) (w : World) (h : cs.length = 65) : (Instr.buildSlice 63 1 #[(0, .agg cs.toArray)]).run Try.prog w = .ok (.slice (some ⟨w.heap.size, 0, none⟩) 1 1) (w.alloc (.cells cs.toArray 76)) := by
  obtain ⟨i0, hi, hz0, hz1, hz2⟩ := info_parts info_write
  have hf : ∀ A : Array Value, A.size = 65 → Instr.fill (fun i => some (i * 65, 65)) A [(0, .agg cs.toArray)] = some cs.toArray := by
    intro A hA
    rw [fill_cells _ 0 0 (.agg cs.toArray) cs rfl _ _ (by simp [h]) (by omega)]
    rw [Instr.fill]
    refine congrArg some (Array.ext' ?_)
    rw [List.drop_eq_nil_of_le (by simp; omega)]
    simp
  simp [Instr.buildSlice, zeroValue, sizeOf, typeInfo, hi, hz0, hz1, run_underlying Try.underlying63, hf, newRow]

/-- What Write does. -/
def Dk.write (D : Dk) (at_ : Int) (s : List UInt8) : Int × Dk :=
  if D.chk at_ ≠ 0 then (10, D) else if 64 < s.length then (2, D) else (0, { D with U := D.U ++ [(at_.toNat, pad s)], N := D.N + 1 })

theorem Dk.chk_or (D : Dk) (at_ : Int) : D.chk at_ = 10 ∨ D.chk at_ = 0 ∧ 0 ≤ at_ ∧ at_ < D.S.length := by
  unfold Dk.chk
  by_cases h : 0 ≤ at_ ∧ at_ < D.S.length
  · rw [if_pos h]; exact .inr ⟨rfl, h⟩
  · rw [if_neg h]; exact .inl rfl

set_option maxRecDepth 100000 in
set_option maxHeartbeats 1000000 in
theorem write_far (S : Nat → Prop) (g : Nat) (D : Dk) (at_ : Int) (s : ByteArray) (w : World) (h : Held S w g D) (hat : -9223372036854775808 ≤ at_ ∧ at_ ≤ 9223372036854775807) (hc : D.chk at_ = 10) :
    Calls Try.prog 21 #[.pointer (some ⟨g, 0, none⟩), .int .i64 at_, .string s] w fun e w' => e = .returned (.int .i64 10) ∧ Below w.heap.size w w' := by
  have H := Lib.hid (check_any S g D at_ w h hat)
  rw [hc] at H
  clear h hat hc
  go_enter Try.func21, Try.ntmps21
  go_wp2_with (go_at_call 36; refine H.out.mono ?_; rintro e w1 ⟨rfl, hb1⟩)
  go_ret
  exact ⟨rfl, hb1⟩

set_option maxRecDepth 100000 in
set_option maxHeartbeats 1000000 in
theorem write_long (S : Nat → Prop) (g : Nat) (D : Dk) (at_ : Int) (s : ByteArray) (w : World) (h : Held S w g D) (hat : -9223372036854775808 ≤ at_ ∧ at_ ≤ 9223372036854775807) (hc : D.chk at_ = 0) (hs : 64 < s.size) (hm : s.size ≤ maxLen) :
    Calls Try.prog 21 #[.pointer (some ⟨g, 0, none⟩), .int .i64 at_, .string s] w fun e w' => e = .returned (.int .i64 2) ∧ Below w.heap.size w w' := by
  unfold maxLen at hm
  have H := Lib.hid (check_any S g D at_ w h hat)
  rw [hc] at H
  clear h hat hc
  go_enter Try.func21, Try.ntmps21
  go_wp2_with (go_at_call 36; refine H.out.mono ?_; rintro e w1 ⟨rfl, hb1⟩)
  go_ret
  exact ⟨rfl, hb1⟩

theorem ownBlock_ne {S : Nat → Prop} {w : World} {g kb cap n : Nat} {so : Option Addr} {D : Dk} (h : HeldAt S w g kb so cap D) : some g ≠ (Value.slice so n cap).ownBlock ∧ some kb ≠ (Value.slice so n cap).ownBlock ∧ (∀ k, (Value.slice so n cap).ownBlock = some k → S k) := by
  obtain ⟨hok, h1, h2, h3, h4, h5, h6, h7, h8, h9, h10, h11⟩ := h
  cases so with
  | none => simp [Value.ownBlock]
  | some a =>
    have := h6 a rfl
    have h9 := h9 a rfl
    refine ⟨fun e => this.1 (Option.some.inj e).symm, fun e => this.2 (Option.some.inj e).symm, fun k hk => ?_⟩
    have : a.block = k := Option.some.inj hk
    exact this ▸ h9

theorem held_pushed {S : Nat → Prop} {w w2 w3 : World} {g kb cap cap' gg : Nat} {so : Option Addr} {D : Dk} {p : Nat × List UInt8} {C : Array Value} {t : TypeId} (h : HeldAt S w g kb so cap D) (hb : Below w.heap.size w w2) (hS : ∀ k, w.heap.size ≤ k → S k)
    (hgrow : (w2.alloc (.cells C t)).grownBy w3 (Value.slice so D.U.length cap).ownBlock) (hown : w3.ownsRow 0 76 65 (.slice (some ⟨gg, 0, none⟩) (D.U.length + 1) cap') (D.U.length + 1) (ucs D.U ++ ucell p))
    (hat : (Value.slice so D.U.length cap).ownBlock = some gg ∨ gg = w2.heap.size + 1) (hlt : gg < w3.heap.size) (hp : p.2.length = 64) (hp1 : p.1 < D.S.length) (hU : D.U.length < 1000000) (hN : D.N < 1000000) :
    w3.cell? ⟨g, 1, none⟩ = some (.slice so D.U.length cap) ∧ w3.frozen? ⟨g, 1, none⟩ = false ∧ w3.cell? ⟨g, 2, none⟩ = some (.int .i64 D.N) ∧ w3.frozen? ⟨g, 2, none⟩ = false ∧
      Held S ((w3.setCell ⟨g, 1, none⟩ (.slice (some ⟨gg, 0, none⟩) (D.U.length + 1) cap')).setCell ⟨g, 2, none⟩ (.int .i64 ((D.N : Int) + 1))) g { D with U := D.U ++ [p], N := D.N + 1 } ∧
      Chg S w ((w3.setCell ⟨g, 1, none⟩ (.slice (some ⟨gg, 0, none⟩) (D.U.length + 1) cap')).setCell ⟨g, 2, none⟩ (.int .i64 ((D.N : Int) + 1))) := by
  obtain ⟨n1, n2, n3⟩ := ownBlock_ne (n := D.U.length) h
  obtain ⟨hok, h1, h2, h3, h4, h5, h6, h7, h8, h9, h10, h11⟩ := (h.below hb).alloc (.cells C t)
  have hsz := hb.size
  have hb1 := h1.grown hgrow n1
  have k1 : w3.heap[kb]? = (w2.alloc (.cells C t)).heap[kb]? := hgrow.block kb h10 n2
  have hgs := hgrow.size
  have hggS : S gg := by
    rcases hat with e | e
    · exact n3 gg e
    · exact hS gg (by omega)
  have hgg : gg ≠ g ∧ gg ≠ kb := by
    rcases hat with e | e
    · rw [e] at n1 n2
      exact ⟨fun x => n1 (by rw [x]), fun x => n2 (by rw [x])⟩
    · have l1 := (h.below hb).lt
      obtain ⟨_, _, _, _, _, _, _, _, _, _, l2, _⟩ := h.below hb
      omega
  have hc : Chg S w w3 := (Chg.ofNew (bl_al hb _)).trans (Chg.ofGrown hgrow n3)
  refine ⟨hb1.cell 1, hb1.frozen 1, hb1.cell 2, hb1.frozen 2, ⟨kb, some ⟨gg, 0, none⟩, cap', ⟨hok.one, hok.most, hok.sec, ?_, by simp; omega, by dsimp only; omega⟩, ?_, ?_, ?_, ?_, h5, ?_, h7, h8, ?_, by simp; omega, ?_⟩, hc.trans ((Chg.ofSetCell _ _ _ h7).trans (Chg.ofSetCell _ _ _ h7))⟩
  · intro q hq
    rcases List.mem_append.1 hq with hq | hq
    · exact hok.uns q hq
    · obtain rfl := List.mem_singleton.1 hq
      exact ⟨hp, hp1⟩
  · have := (hb1.set_ 1 (.slice (some ⟨gg, 0, none⟩) (D.U.length + 1) cap')).set_ 2 (.int .i64 ((D.N : Int) + 1))
    simpa using this
  · intro k s hk
    refine rangeAt_block (h2 k s hk) ?_
    rw [heap_setCell_other _ _ _ _ (Ne.symm h5), heap_setCell_other _ _ _ _ (Ne.symm h5), k1]
  · refine there_block h3 ?_
    rw [heap_setCell_other _ _ _ _ (Ne.symm h5), heap_setCell_other _ _ _ _ (Ne.symm h5), k1]
  · simp only [List.length_append, List.length_cons, List.length_nil, ucs_snoc]
    refine ownsRow_block hown fun k hk => ?_
    obtain rfl : gg = k := by simpa [Value.ownBlock] using hk
    rw [heap_setCell_other _ _ _ _ hgg.1, heap_setCell_other _ _ _ _ hgg.1]
  · intro a ha
    obtain rfl := Option.some.inj ha
    exact hgg
  · intro a ha
    obtain rfl := Option.some.inj ha
    exact hggS
  · intro a ha
    obtain rfl := Option.some.inj ha
    simpa using hlt

set_option maxRecDepth 100000 in
set_option maxHeartbeats 4000000 in
theorem write_ok (S : Nat → Prop) (g : Nat) (D : Dk) (i : Nat) (s : ByteArray) (w : World) (h : Held S w g D) (hi : i < D.S.length) (hs : s.size ≤ 64) (hU : D.U.length < 1000000) (hN : D.N < 1000000) (hS : ∀ k, w.heap.size ≤ k → S k) :
    Calls Try.prog 21 #[.pointer (some ⟨g, 0, none⟩), .int .i64 i, .string s] w fun e w' => e = .returned (.int .i64 0) ∧
      Held S w' g { D with U := D.U ++ [(i, pad s.data.toList)], N := D.N + 1 } ∧ Chg S w w' := by
  have hmost := h.ok.most
  have hchk : D.chk i = 0 := by
    rcases D.chk_or i with hc | ⟨hc, _⟩
    · exfalso; unfold Dk.chk at hc; rw [if_pos (by omega)] at hc; cases hc
    · exact hc
  have H := Lib.hid (check_any S g D i w h (by omega))
  rw [hchk] at H
  have hsl := ba_length s
  have hpl := pad_length s.data.toList (by omega)
  obtain ⟨kb, so, cap, hH⟩ := h
  have c1 : w.cell? ⟨g, 1, none⟩ = some (.slice so D.U.length cap) := hH.2.1.cell 1
  have c2 : w.cell? ⟨g, 2, none⟩ = some (.int .i64 D.N) := hH.2.1.cell 2
  have hlt := hH.lt
  have HH := Lib.hid hH
  have HS := Lib.hid hS
  clear hH hS hmost hchk
  have HP : Hid ((pad s.data.toList).length = 64) := Lib.hid hpl
  have hbuild : ∀ W, (Instr.build 76 #[(0, .int .i64 i), (1, .agg (u8s (pad s.data.toList)).toArray)]).run Try.prog W = .ok (.agg (ucell (i, pad s.data.toList)).toArray) W := fun W => run_build_write _ _ W (by rw [u8s_length, hpl])
  have hslice : ∀ W, (Instr.buildSlice 63 1 #[(0, .agg (ucell (i, pad s.data.toList)).toArray)]).run Try.prog W = .ok (.slice (some ⟨W.heap.size, 0, none⟩) 1 1) (W.alloc (.cells (ucell (i, pad s.data.toList)).toArray 76)) := fun W => run_slice_write _ W (ucell_length _ hpl)
  obtain ⟨p, hp⟩ : ∃ p, (i, pad s.data.toList) = p := ⟨_, rfl⟩
  rw [hp] at hbuild hslice
  have HPP := Lib.hid hp
  clear hpl hsl hp
  have hsm : decide (64 < (s.size : Int)) = false := decide_eq_false (by omega)
  go_enter Try.func21, Try.ntmps21
  go_wp2_with (go_at_call 36; refine H.out.mono ?_; rintro e w1 ⟨rfl, hb1⟩)
  have hw1 := hb1.size
  have HH1 := Lib.hid (HH.out.below hb1)
  have d1 : w1.cell? ⟨g, 1, none⟩ = some (.slice so D.U.length cap) := (hb1.cell hlt).trans c1
  have HB := Lib.hid hb1
  have hg1 : g < w1.heap.size := by omega
  clear H c1 c2 hb1
  obtain ⟨j0, hi0, hz0, hz1, hz2⟩ := info_parts info_write
  obtain ⟨Z, hZ⟩ : ∃ Z, Z = Value.agg (#[.int .i64 0] ++ Array.replicate 64 (.int .u8 0)) := ⟨_, rfl⟩
  rw [← hZ] at hz0
  have hzs : Z.cells.size = 65 := by rw [hZ]; simp [Value.cells]
  have HI := Lib.hid (And.intro hz1 (And.intro hz2 hzs))
  clear hZ hz1 hz2 hzs
  go_region_law (first
    | (refine step_append_lies _ (by rfl) _ _ _ (by rfl) 0 76 j0 Z 65 72 Try.underlying63 hi0 hz0 HI.out.1 HI.out.2.1 HI.out.2.2 (by omega) (.slice so D.U.length cap) D.U.length (ucs D.U) (by rfl)
        (((HH1.out.drew).below hb2).alloc _).2.2.2.2.1 ⟨w2.heap.size, 0, none⟩ 1 1 (ucell p) (by rfl) (by have := HP.out; rw [ucell_length p (by rw [← HPP.out]; exact HP.out)]) (World.news_of_block (heap_alloc_new w2 _)) (ucell_one p) (by omega) (by unfold maxLen; omega) (by omega) (Nat.zero_le _) (w2.heap.size + 1) (by simp) ?_
       intro gg cap' w3 hown hgrow hat hlt3
       obtain ⟨e1, e2, e3, e4, e5⟩ := held_pushed HH1.out.drew hb2 (fun k hk => HS.out k (Nat.le_trans hw1 hk)) hgrow hown hat hlt3 (by rw [← HPP.out]; exact HP.out) (by rw [← HPP.out]; exact hi) hU hN
       have HE := Lib.hid e5
       clear e5 hown hgrow hat hlt3)
    | (go_simp; go_at_call 37; refine (filled_any s _ hs).mono ?_; rintro e w2 ⟨rfl, hb2⟩; have d2 := (hb2.cell (p := ⟨g, 1, none⟩) hg1).trans d1; have d3 := (World.cell?_alloc_lt w2 (.cells (ucell p).toArray 76) _ (World.block_lt_of_cell? _ _ d2)).trans d2))
  all_goals
    clear hbuild hslice d1 d2 d3
    go_wp2
    go_ret
    obtain ⟨e5, e6⟩ := HE.out
    refine ⟨rfl, ?_, (Chg.ofNew (bl_dr HB.out)).trans e6⟩
    rw [HPP.out]
    exact e5

/-- Write, in one. -/
theorem write_any (S : Nat → Prop) (g : Nat) (D : Dk) (at_ : Int) (s : ByteArray) (w : World) (h : Held S w g D) (hat : -9223372036854775808 ≤ at_ ∧ at_ ≤ 9223372036854775807) (hm : s.size ≤ maxLen) (hU : D.U.length < 1000000) (hN : D.N < 1000000) (hS : ∀ k, w.heap.size ≤ k → S k) :
    Calls Try.prog 21 #[.pointer (some ⟨g, 0, none⟩), .int .i64 at_, .string s] w fun e w' => e = .returned (.int .i64 (D.write at_ s.data.toList).1) ∧ Held S w' g (D.write at_ s.data.toList).2 ∧ Chg S w w' := by
  have hl := ba_length s
  rcases D.chk_or at_ with hc | ⟨hc, h0, h1⟩
  · have e : D.write at_ s.data.toList = (10, D) := by unfold Dk.write; rw [if_pos (by rw [hc]; decide)]
    rw [e]
    refine (write_far S g D at_ s w h hat hc).mono ?_
    rintro e w' ⟨rfl, hb⟩
    exact ⟨rfl, h.below hb, Chg.ofNew hb⟩
  · by_cases hs : 64 < s.size
    · have e : D.write at_ s.data.toList = (2, D) := by unfold Dk.write; rw [if_neg (by rw [hc]; decide), if_pos (by omega)]
      rw [e]
      refine (write_long S g D at_ s w h hat hc hs hm).mono ?_
      rintro e w' ⟨rfl, hb⟩
      exact ⟨rfl, h.below hb, Chg.ofNew hb⟩
    · have e : D.write at_ s.data.toList = (0, { D with U := D.U ++ [(at_.toNat, pad s.data.toList)], N := D.N + 1 }) := by unfold Dk.write; rw [if_neg (by rw [hc]; decide), if_neg (by omega)]
      rw [e]
      obtain ⟨i, rfl⟩ : ∃ i : Nat, at_ = i := ⟨at_.toNat, by omega⟩
      exact write_ok S g D i s w h (by omega) (by omega) hU hN hS
end Go.Proofs.Ytdaoiimjflplhaa
