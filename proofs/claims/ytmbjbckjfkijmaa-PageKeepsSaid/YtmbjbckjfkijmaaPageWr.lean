/- package page: Write. -/
import Derived.Test.YtmbjbckjfkijmaaSectors
import Derived.Test.YtmbjbckjfkijmaaDiskE
import Derived.Deep.RegionHeld3
namespace Go.Proofs.Ytmbjbckjfkijmaa
open Go.RowKit Go.Shelf
set_option linter.unusedVariables false
attribute [local go_sem] Oper.semAt_some

set_option maxRecDepth 100000 in
set_option maxHeartbeats 1000000 in
theorem pwrite_no (k : Int) (i t : Nat) (b : ByteArray) (g : Nat) (w : World) (hk : -9223372036854775808 ≤ k ∧ k ≤ 9223372036854775807) (hi : i < 4294967296) (ht : t < 18446744073709551616) (hb : b.size ≤ maxLen) (h : rightB k i t b.size = false) :
    Calls Try.prog 39 #[.pointer (some ⟨g, 0, none⟩), .agg #[.int .i64 k, .int .u32 i, .int .u64 t, .string b]] w fun e w' => e = .returned (.int .i64 30) ∧ Below w.heap.size w w' := by
  have H := Lib.hid (fun W => encode_no k i t b W hk hi ht hb h)
  clear h hk hi ht hb
  go_enter Try.func39, Try.ntmps39
  go_wp2_with fail
  refine wp_scope_straight ?_
  go_wp2_with fail
  refine (H.out _).mono ?_
  rintro e w1 ⟨rfl, hb1⟩
  have HB := Lib.hid ((bl_al (bl_al (bl_re w) _) _).trans (hb1.mono (by simp; omega)))
  clear hb1
  go_wp2
  simp only [Exit.noGoto]
  go_ret
  exact ⟨rfl, bl_al (bl_al HB.out _) _⟩

/-- The k-th sector's bytes of a page's. -/
def chunk (z : List UInt8) (k : Nat) : List UInt8 := (z.take (64 * k + 64)).drop (64 * k)
/-- A disk behind the writes of a page's first k sectors. -/
def Dk.pw (D : Dk) (id : Nat) (z : List UInt8) : Nat → Dk
  | 0 => D
  | k + 1 => { S := (Dk.pw D id z k).S, U := (Dk.pw D id z k).U ++ [(4 * id + k, chunk z k)], N := (Dk.pw D id z k).N + 1 }
theorem pw_S (D : Dk) (id : Nat) (z : List UInt8) : ∀ k, (D.pw id z k).S = D.S
  | 0 => rfl
  | k + 1 => pw_S D id z k
theorem pw_U (D : Dk) (id : Nat) (z : List UInt8) : ∀ k, (D.pw id z k).U.length = D.U.length + k ∧ (D.pw id z k).N = D.N + k
  | 0 => ⟨rfl, rfl⟩
  | k + 1 => by
    have := pw_U D id z k
    simp only [Dk.pw, List.length_append, List.length_cons, List.length_nil]
    omega

/-- What stands while a page is written. B: the block of its bytes. -/
structure WrI (S S' : Nat → Prop) (w : World) (g id B : Nat) (z : ByteArray) (D : Dk) (W : World) : Prop where
  bd : Blk W w.heap.size 25 #[.pointer (some ⟨g, 0, none⟩)]
  bs : Blk W B 9 #[.string z]
  be : Blk W (B + 1) 26 #[.int .i64 0]
  bi : Blk W (B + 2) 57 #[.int .u32 (id : Int)]
  hd : Held S' W g D
  hb : w.heap.size < B
  ch : Chg S w W
section
variable {S S' : Nat → Prop} {w W W' : World} {g id B : Nat} {D D' : Dk} {z : ByteArray}
theorem WrI.below (h : WrI S S' w g id B z D W) (hb : Below W.heap.size W W') : WrI S S' w g id B z D W' :=
  ⟨h.bd.below hb h.bd.lt, h.bs.below hb h.bs.lt, h.be.below hb h.be.lt, h.bi.below hb h.bi.lt, h.hd.below hb, h.hb, h.ch.trans (Chg.ofNew hb)⟩
theorem WrI.put (h : WrI S S' w g id B z D W) (hS : ∀ k, w.heap.size ≤ k → S k) (l : Nat) (hl : B + 3 ≤ l) (hS' : ¬ S' l) (o : Obj) : WrI S S' w g id B z D (W.putObj l o) := by
  have := h.hb
  exact ⟨h.bd.putObj (by omega) o, h.bs.putObj (by omega) o, h.be.putObj (by omega) o, h.bi.putObj (by omega) o, h.hd.put hS' o, h.hb, h.ch.trans (Chg.ofPut _ _ _ (hS _ (by omega)))⟩
theorem WrI.setE (h : WrI S S' w g id B z D W) (hn : ¬ S' (B + 1)) (hs : S (B + 1)) : WrI S S' w g id B z D (W.setCell ⟨B + 1, 0, none⟩ (.int .i64 0)) := by
  have := h.hb
  exact ⟨h.bd.far (by dsimp only; omega) _, h.bs.far (by dsimp only; omega) _, by simpa using h.be.set_ 0 (.int .i64 0), h.bi.far (by dsimp only; omega) _, h.hd.far hn _, h.hb, h.ch.trans (Chg.ofSetCell _ _ _ hs)⟩
theorem WrI.wrote (h : WrI S S' w g id B z D W) (hn : ∀ k, w.heap.size ≤ k → k < B + 5 → ¬ S' k) (hs : ∀ k, S' k → S k) (hh : Held S' W' g D') (hc : Chg S' W W') : WrI S S' w g id B z D' W' := by
  have := h.hb
  exact ⟨h.bd.chg hc (hn _ (by omega) (by omega)), h.bs.chg hc (hn _ (by omega) (by omega)), h.be.chg hc (hn _ (by omega) (by omega)), h.bi.chg hc (hn _ (by omega) (by omega)), hh, h.hb, h.ch.trans (hc.mono fun k _ hk => hs k hk)⟩
end

set_option maxRecDepth 100000 in
set_option maxHeartbeats 8000000 in
theorem pwrite_ok (S : Nat → Prop) (g : Nat) (D : Dk) (k i t : Nat) (b : ByteArray) (w : World) (h : Held S w g D) (hk : k ≤ 3) (hi : i < 4294967296) (ht : t < 18446744073709551616) (hb : b.size ≤ 237) (hr : rightB k i t b.size = true)
    (hi4 : 4 * i + 3 < D.S.length) (hU : D.U.length + 4 ≤ 1000000) (hN : D.N + 4 ≤ 1000000) (hS : ∀ k, w.heap.size ≤ k → S k) :
    Calls Try.prog 39 #[.pointer (some ⟨g, 0, none⟩), .agg #[.int .i64 k, .int .u32 i, .int .u64 t, .string b]] w fun e w' => e = .returned (.int .i64 0) ∧ Held S w' g (D.pw i (encL k i t b.data.toList) 4) ∧ Chg S w w' := by
  have hmost := h.ok.most
  have HH := Lib.hid h
  clear h
  have he := fun W => encode_yes k i t b W hk hi ht hb hr
  have hzl := encL_length k i t b.data.toList (by rw [ba_length]; exact hb)
  obtain ⟨z, hz⟩ : ∃ z, mk (encL k i t b.data.toList) = z := ⟨_, rfl⟩
  have hzd : encL k i t b.data.toList = z.data.toList := by rw [← hz, mk_toList]
  have hzs : z.size = 256 := by rw [← hz, mk_size]; exact hzl
  rw [hz] at he
  rw [hzd]
  have HE := Lib.hid he
  have HZ := Lib.hid hzs
  clear he hz hzd hzl hzs hr
  refine (callsIn_wide (n := 9)).1 (callsIn_of_wp_marks Try.func39 rfl trivial ?_ rfl)
  simp only [Try.ntmps39, List.size_toArray, List.length_cons, List.length_nil, Nat.reduceAdd, Nat.reduceSub, Array.replicate_succ, Array.replicate_zero, List.push_toArray, List.append_toArray, List.nil_append, List.cons_append]
  gi_wp2_with fail
  refine (wpIn_wide (n := 9)).2 (wp_scope_straight ((wpIn_wide (n := 9)).1 ?_))
  gi_wp2_with fail
  refine ⟨trivial, (callsIn_wide.2 (HE.out _)).mono ?_⟩
  rintro e w1 ⟨rfl, hb1⟩
  have e0 := ((Blk.new w 25 #[.pointer (some ⟨g, 0, none⟩)]).alloc (.cells #[.int .i64 (k : Int), .int .u32 (i : Int), .int .u64 (t : Int), .string b] 60)).below hb1 (by simp; omega)
  have e1 := (Blk.new (w.alloc (.cells #[.pointer (some ⟨g, 0, none⟩)] 25)) 60 #[.int .i64 (k : Int), .int .u32 (i : Int), .int .u64 (t : Int), .string b]).below hb1 (by simp)
  rw [World.size_alloc] at e1
  have hB1 : Below w.heap.size w w1 := (bl_al (bl_al (bl_re w) _) _).trans (hb1.mono (by simp; omega))
  have hsz1 := hb1.size
  simp at hsz1
  have l0 : w.heap.size < w1.heap.size := by omega
  have l1 : w.heap.size + 1 < w1.heap.size := by omega
  have c1 : w1.cell? ⟨w.heap.size + 1, 1, none⟩ = some (.int .u32 (i : Int)) := e1.cell 1
  have K1 := Lib.hid (And.intro e0 hB1)
  clear e0 e1 hB1 hb1 hsz1
  gi_wp2_with fail
  refine wpIn_label ?_
  gi_wp2_with fail
  refine ⟨trivial, (callsIn_wide.2 (psectors_any i _)).mono ?_⟩
  rintro e w2 ⟨rfl, rfl⟩
  obtain ⟨B, hB⟩ : ∃ B, w1.heap.size = B := ⟨_, rfl⟩
  obtain ⟨S', hS'⟩ : ∃ S' : Nat → Prop, S' = fun k => (S k ∧ k < w.heap.size) ∨ B + 5 ≤ k := ⟨_, rfl⟩
  have hSn : ∀ k, w.heap.size ≤ k → k < B + 5 → ¬ S' k := fun k h1 h2 hk => by
    rw [hS'] at hk
    rcases hk with ⟨_, h⟩ | h <;> omega
  have hSs : ∀ k, S' k → S k := fun k hk => by
    rw [hS'] at hk
    rcases hk with ⟨h, _⟩ | h
    · exact h
    · exact hS k (by omega)
  have hSu : ∀ k, B + 5 ≤ k → S' k := fun k hk => by rw [hS']; exact .inr hk
  have hH' : Held S' w g D := HH.out.sub fun k hk hs => by rw [hS']; exact .inl ⟨hs, hk⟩
  clear hS'
  obtain ⟨w0, hw0⟩ : ∃ w0, ((w1.alloc (.cells #[.string z] 9)).alloc (.cells #[.int .i64 0] 26)).alloc (.cells #[.int .u32 (i : Int)] 57) = w0 := ⟨_, rfl⟩
  have hsz : w0.heap.size = B + 3 := by rw [← hw0, ← hB]; simp
  have h0 : WrI S S' w g i B z D w0 := by
    have hB1 := K1.out.2
    rw [← hw0, ← hB]
    have f1 := Blk.new w1 9 #[.string z]
    have f2 := Blk.new (w1.alloc (.cells #[.string z] 9)) 26 #[.int .i64 0]
    have f3 := Blk.new ((w1.alloc (.cells #[.string z] 9)).alloc (.cells #[.int .i64 0] 26)) 57 #[.int .u32 (i : Int)]
    simp only [World.size_alloc] at f2 f3
    exact ⟨((K1.out.1.alloc _).alloc _).alloc _, (f1.alloc _).alloc _, f2.alloc _, f3, (((hH'.below hB1).alloc _).alloc _).alloc _, l0, Chg.ofNew (bl_al (bl_al (bl_al hB1 _) _) _)⟩
  have H0 := Lib.hid h0
  clear h0 hH' c1 l1 l0
  gi_wp2_with fail
  clear hw0
  refine rf_sectors (Bi := B + 2) (id := i) hi (B + 3) hsz (by rw [← hB]; rfl)
    (fun j W => WrI S S' w g i B z (D.pw i z.data.toList j) W ∧ (j = 0 ∨ B + 5 ≤ W.heap.size)) ?ival ?all ?put ?zero ?round ?fin
  case ival => exact fun j W h => h.1.bi.cell 0
  case all => exact fun j W o h => ⟨h.1.below (bl_al (bl_re W) o), by have := h.2; rw [World.size_alloc]; omega⟩
  case put => exact fun j W o h => ⟨h.1.put hS (B + 3 + 1) (by omega) (hSn _ (by have := h.1.hb; omega) (by omega)) o, by simpa using h.2⟩
  case zero => exact ⟨H0.out, .inl rfl⟩
  case round =>
    rintro j W x y zz hj ⟨hI, _⟩ hx hy hlW
    have hwB := hI.hb
    obtain ⟨W1, hW1⟩ : ∃ W1, W.putObj (B + 3 + 1) zz = W1 := ⟨_, rfl⟩
    have hI1 : WrI S S' w g i B z (D.pw i z.data.toList j) W1 := by rw [← hW1]; exact hI.put hS (B + 3 + 1) (by omega) (hSn _ (by omega) (by omega)) zz
    have x1 : W1.heap[B + 3]? = some x := by rw [← hW1]; exact (World.putObj_heap_other (by omega)).trans hx
    have z1 : W1.heap[B + 3 + 1]? = some zz := by rw [← hW1]; exact World.putObj_heap_same (by omega)
    have h8 : B + 5 ≤ W1.heap.size := by rw [← hW1]; simp; omega
    have hzs := HZ.out
    have hch : z.extract (64 * j) (64 * j + 64) = mk (chunk z.data.toList j) := ba_ext (by rw [ext_list, mk_toList]; rfl)
    have hcl : (chunk z.data.toList j).length = 64 := by
      unfold chunk
      rw [List.length_drop, List.length_take, ba_length]
      omega
    have hpw := pw_U D i z.data.toList j
    have hwr := fun (W : World) (hH : Held S' W g (D.pw i z.data.toList j)) (h8 : B + 5 ≤ W.heap.size) => write_ok S' g (D.pw i z.data.toList j) (4 * i + j) (mk (chunk z.data.toList j)) W hH (by rw [pw_S]; omega) (by rw [mk_size]; omega) (by omega) (by omega) (fun k hk => hSu k (by omega))
    have hpad : pad (chunk z.data.toList j) = chunk z.data.toList j := by unfold pad; rw [hcl]; simp
    rw [mk_toList, hpad, show ((4 * i + j : Nat) : Int) = 4 * (i : Int) + (j : Int) by omega] at hwr
    have q0 : W1.cell? ⟨w.heap.size, 0, none⟩ = some (.pointer (some ⟨g, 0, none⟩)) := hI1.bd.cell 0
    have q1 : W1.cell? ⟨B, 0, none⟩ = some (.string z) := hI1.bs.cell 0
    have j0 : (0 : Int) ≤ (j : Int) := Int.natCast_nonneg _
    have j1 : (j : Int) < 4 := by omega
    have e5 : IntKind.i64.wrap (64 * (j : Int) + 64) = 64 * (j : Int) + 64 := IntWalk.i64_in _ (by omega)
    have e6 : ∀ W, (Instr.slice 9 (.string z) (some (.int .i64 (64 * (j : Int)))) (some (.int .i64 (64 * (j : Int) + 64))) none).run Try.prog W = .ok (.string (mk (chunk z.data.toList j))) W := fun W => by
      rw [run_slice_string (h := Try.underlying9) (h0 := by omega) (h1 := by omega) (h2 := by omega), show (64 * (j : Int)).toNat = 64 * j by omega, show (64 * (j : Int) + 64).toNat = 64 * j + 64 by omega]
      exact congrArg (fun x => Result.ok (Value.string x) W) hch
    obtain ⟨ck, hck⟩ : ∃ ck, chunk z.data.toList j = ck := ⟨_, rfl⟩
    rw [hck] at hwr e6
    have hm : Try.prog.follows .mixedOrders = true := by kernel_rfl
    have KW := Lib.hid hW1
    have KI := Lib.hid (And.intro hI1 (And.intro x1 (And.intro z1 (And.intro h8 (And.intro hwr hck)))))
    have KY := Lib.hid hy
    clear hW1 hI1 x1 z1 h8 hwr hck hI hx hy hlW hch hcl hpw hpad hzs
    gi_wp2_with fail
    refine ⟨KY.out, ?_⟩
    rw [KW.out]
    gi_wp2_with fail
    obtain ⟨SP, hSP⟩ : ∃ SP : World → Prop, SP = fun w' : World => w'.cell? ⟨w.heap.size, 0, none⟩ = some (.pointer (some ⟨g, 0, none⟩)) ∧ w'.cell? ⟨B, 0, none⟩ = some (.string z) := ⟨_, rfl⟩
    have hS0 : SP W1.drew := by rw [hSP]; exact ⟨q0, q1⟩
    refine region_round (S := SP) hm (by kernel_rfl) (by rintro ⟨_, _, h⟩; cases h.1) ?_
    refine wpAnyH_take (i := 0) (v := .pointer (some ⟨g, 0, none⟩)) rfl (by kernel_rfl) (by kernel_rfl) (by kernel_rfl) (fun _ _ _ h => h) (Or.inl ⟨by rfl, fun w' hS => ?_⟩) hS0 ?_
    · rw [hSP] at hS
      obtain ⟨s1, s2⟩ := hS
      go_simp
    refine wpAnyH_take (i := 1) (v := .int .i64 (4 * (i : Int) + (j : Int))) rfl (by kernel_rfl) (by kernel_rfl) (by kernel_rfl) (fun _ _ _ h => h) (Or.inl ⟨by rfl, fun w' hS => ?_⟩) hS0 ?_
    · go_simp
    refine wpAnyH_take (i := 2) (v := .string z) rfl (by kernel_rfl) (by kernel_rfl) (by kernel_rfl) (fun _ _ _ h => h) (Or.inl ⟨by rfl, fun w' hS => ?_⟩) hS0 ?_
    · rw [hSP] at hS
      obtain ⟨s1, s2⟩ := hS
      go_simp
    refine wpAnyH_take (i := 3) (v := .int .i64 (64 * (j : Int))) rfl (by kernel_rfl) (by kernel_rfl) (by kernel_rfl) (fun _ _ _ h => h) (Or.inl ⟨by rfl, fun w' hS => ?_⟩) hS0 ?_
    · go_simp
    refine wpAnyH_take (i := 4) (v := .int .i64 (64 * (j : Int))) rfl (by kernel_rfl) (by kernel_rfl) (by kernel_rfl) (fun _ _ _ h => h) (Or.inl ⟨by rfl, fun w' hS => ?_⟩) hS0 ?_
    · go_simp
    refine wpAnyH_take (i := 5) (v := .int .i64 (64 * (j : Int) + 64)) rfl (by kernel_rfl) (by kernel_rfl) (by kernel_rfl) (fun _ _ _ h => h) (Or.inl ⟨by rfl, fun w' hS => ?_⟩) hS0 ?_
    · go_simp
    refine wpAnyH_take (i := 6) (v := .string (mk ck)) rfl (by kernel_rfl) (by kernel_rfl) (by kernel_rfl) (fun _ _ _ h => h) (Or.inl ⟨by rfl, fun w' hS => ?_⟩) hS0 ?_
    · go_simp
    refine wpAnyH_all (rs := [7]) (by kernel_rfl) (by simp) ?_
    intro i' hi'
    obtain rfl : i' = 7 := by simpa using hi'
    refine wpOp_enter (f := 17) (args := #[.pointer (some ⟨g, 0, none⟩), .int .i64 (4 * (i : Int) + (j : Int)), .string (mk ck)]) rfl rfl (by go_simp) ?_
    refine (KI.out.2.2.2.2.1 W1.drew KI.out.1.hd.drew KI.out.2.2.2.1).mono ?_
    rintro e W2 ⟨rfl, hh2, hc2⟩
    have h2 := (KI.out.1.below (bl_dr (bl_re W1))).wrote hSn hSs hh2 hc2
    have s0 : SP W2 := by rw [hSP]; exact ⟨h2.bd.cell 0, h2.bs.cell 0⟩
    refine ⟨_, rfl, s0, ?_⟩
    have b0 : W2.cell? ⟨B + 1, 0, none⟩ = some (.int .i64 0) := h2.be.cell 0
    have b1 := h2.be.frozen 0
    refine wpAnyH_all (rs := [8]) (by kernel_rfl) (by simp) ?_
    intro i' hi'
    obtain rfl : i' = 8 := by simpa using hi'
    refine wpOp_value (nx := .skip) (v := undef) (w' := W2.setCell ⟨B + 1, 0, none⟩ (.int .i64 0)) rfl rfl (.inr ⟨rfl, rfl⟩) (by go_simp) ⟨?_, ?_⟩
    · rw [hSP]
      exact ⟨(h2.setE (hSn _ (by omega) (by omega)) (hS _ (by omega))).bd.cell 0, (h2.setE (hSn _ (by omega) (by omega)) (hS _ (by omega))).bs.cell 0⟩
    refine wpAnyH_done (by kernel_rfl) ?_ _
    have h3 := h2.setE (hSn _ (by omega) (by omega)) (hS _ (by omega))
    have x2 := hc2.toHeap (a := W1.drew) KI.out.2.1 (hSn _ (by omega) (by omega))
    have z2 := hc2.toHeap (a := W1.drew) KI.out.2.2.1 (hSn _ (by omega) (by omega))
    have h8 : B + 5 ≤ W2.heap.size := Nat.le_trans KI.out.2.2.2.1 hc2.size
    have c3 : (W2.setCell ⟨B + 1, 0, none⟩ (.int .i64 0)).cell? ⟨B + 1, 0, none⟩ = some (.int .i64 0) := h3.be.cell 0
    have K3 := Lib.hid (And.intro h3 (And.intro x2 (And.intro z2 h8)))
    clear h3 x2 z2 h8 h2 s0 hh2 hc2 b0 b1
    obtain ⟨W3, hW3⟩ : ∃ W3, W2.setCell ⟨B + 1, 0, none⟩ (.int .i64 0) = W3 := ⟨_, rfl⟩
    have hs3 : W3.heap.size = W2.heap.size := by rw [← hW3]; simp
    have x3 : ∀ q, q ≠ B + 1 → W3.heap[q]? = W2.heap[q]? := fun q hq => by rw [← hW3]; exact heap_setCell_other _ _ _ _ (by dsimp only; omega)
    rw [hW3] at K3 c3 ⊢
    have K4 := Lib.hid (And.intro hs3 x3)
    clear hW3 hs3 x3
    go_simp
    gi_wp2_with fail
    have h3 := K3.out.1
    rw [← KI.out.2.2.2.2.2] at h3
    exact ⟨⟨h3, by rw [K4.out.1]; exact K3.out.2.2.2⟩, (K4.out.2 _ (by omega)).trans K3.out.2.1, (K4.out.2 _ (by omega)).trans K3.out.2.2.1⟩
  case fin =>
    rintro W ⟨h, _⟩ hd
    have c3 : W.cell? ⟨B + 1, 0, none⟩ = some (.int .i64 0) := h.be.cell 0
    have hwB := h.hb
    have K3 := Lib.hid (And.intro h hd)
    clear h hd
    gi_wp2_with fail
    simp only [Exit.noGoto]
    refine ⟨by simp, .inl ⟨_, _, rfl, run_takeDeferred K3.out.2, ?_⟩⟩
    have h4 := K3.out.1.put hS (B + 3) (by omega) (hSn _ (by omega) (by omega)) (.deferred none)
    exact ⟨_, results_tmp rfl _ _ _, rfl, h4.hd.sub fun k _ hk => hSs k hk, h4.ch⟩
end Go.Proofs.Ytmbjbckjfkijmaa
