/- package page: Read. -/
import Derived.Test.YtmbjbckjfkijmaaSectors
import Derived.Test.YtmbjbckjfkijmaaDiskG
import Derived.Test.YtmbjbckjfkijmaaPageL
import Derived.Laws.StructEq
namespace Go.Proofs.Ytmbjbckjfkijmaa
open Go.RowKit Go.Shelf
set_option linter.unusedVariables false
attribute [local go_sem] Oper.semAt_some

/-- The bytes of a page's first k sectors. -/
def Dk.pg (D : Dk) (id : Nat) : Nat → List UInt8
  | 0 => []
  | k + 1 => Dk.pg D id k ++ D.rd (4 * id + k)
def preadV (D : Dk) (id : Nat) : Value := if decB (D.pg id 4) = true ∧ dId (D.pg id 4) = id then .tuple #[pageV (dKind (D.pg id 4)) (dId (D.pg id 4)) (dTx (D.pg id 4)) (dBody (D.pg id 4)), .int .i64 0] else .tuple #[pageZ, .int .i64 30]

theorem rd_len (S : Nat → Prop) (w : World) (g : Nat) (D : Dk) (h : Held S w g D) (j : Nat) (hj : j < D.S.length) : (D.rd j).length = 64 := by
  unfold Dk.rd
  refine over_length j D.U _ ?_ fun p hp => (h.ok.uns p hp).1
  rw [List.getElem?_eq_getElem hj]
  exact h.ok.sec _ (List.getElem_mem hj)
theorem pg_len (S : Nat → Prop) (w : World) (g : Nat) (D : Dk) (h : Held S w g D) (id : Nat) : ∀ k, 4 * id + k ≤ D.S.length → (D.pg id k).length = 64 * k
  | 0, _ => rfl
  | k + 1, hk => by rw [Dk.pg, List.length_append, pg_len S w g D h id k (by omega), rd_len S w g D h _ (by omega)]; omega

/-- What stands while a page is read: the boxes, the disk, the bytes so far. -/
structure RdI (w : World) (g id : Nat) (D : Dk) (S' : Nat → Prop) (n : Nat) (l : List UInt8) (rb cap : Nat) (W : World) : Prop where
  bd : Blk W w.heap.size 25 #[.pointer (some ⟨g, 0, none⟩)]
  bp : Blk W (w.heap.size + 1) 60 #[.int .i64 0, .int .u32 0, .int .u64 0, .string ⟨#[]⟩]
  be : Blk W (w.heap.size + 2) 26 #[.int .i64 0]
  ba : Blk W (w.heap.size + 4) 64 #[.slice (some ⟨rb, 0, none⟩) n cap]
  bi : Blk W (w.heap.size + 5) 57 #[.int .u32 (id : Int)]
  hd : Held S' W g D
  hl : l.length = n
  hh : Holds W rb l
  rlo : w.heap.size ≤ rb
  rhi : rb < W.heap.size
  rne : rb ≠ w.heap.size + 4 ∧ rb ≠ w.heap.size + 6 ∧ rb ≠ w.heap.size + 7
  cp : n ≤ cap
  bl : Below w.heap.size w W
theorem holds_block {w w' : World} {g : Nat} {l : List UInt8} (h : Holds w g l) (hb : w'.heap[g]? = w.heap[g]?) : Holds w' g l := fun j hj => by
  rw [← h j hj]
  exact World.cell?_of_block hb
section
variable {w W W' : World} {g id n rb cap : Nat} {D : Dk} {S' : Nat → Prop} {l : List UInt8}
theorem RdI.below (h : RdI w g id D S' n l rb cap W) (hb : Below W.heap.size W W') : RdI w g id D S' n l rb cap W' :=
  ⟨h.bd.below hb h.bd.lt, h.bp.below hb h.bp.lt, h.be.below hb h.be.lt, h.ba.below hb h.ba.lt, h.bi.below hb h.bi.lt, h.hd.below hb, h.hl, holds_block h.hh (hb.block _ h.rhi), h.rlo, Nat.lt_of_lt_of_le h.rhi hb.size, h.rne, h.cp, bl_tr h.bl hb⟩
theorem RdI.alloc (h : RdI w g id D S' n l rb cap W) (o : Obj) : RdI w g id D S' n l rb cap (W.alloc o) := h.below (bl_al (bl_re W) o)
theorem RdI.put (h : RdI w g id D S' n l rb cap W) (hS : ∀ k, S' k → k < w.heap.size) (o : Obj) : RdI w g id D S' n l rb cap (W.putObj (w.heap.size + 6 + 1) o) :=
  ⟨h.bd.putObj (by omega) o, h.bp.putObj (by omega) o, h.be.putObj (by omega) o, h.ba.putObj (by omega) o, h.bi.putObj (by omega) o, h.hd.put (fun x => by have := hS _ x; omega) o, h.hl, holds_block h.hh (World.putObj_heap_other (by have := h.rne.2.2; omega)), h.rlo, by simpa using h.rhi, h.rne, h.cp, below_putObj h.bl (by omega) o⟩
theorem RdI.grown (h : RdI w g id D S' n l rb cap W) (hS : ∀ k, S' k → k < w.heap.size) (hb : Below W.heap.size W W') (hs : W'.heap.size = W.heap.size + 1) (h8 : w.heap.size + 8 ≤ W.heap.size) {l' : List UInt8} {n' cap' : Nat} (hl : l'.length = n') (hh : Holds W' W.heap.size l') (hc : n' ≤ cap') :
    RdI w g id D S' n' l' W.heap.size cap' (W'.setCell ⟨w.heap.size + 4, 0, none⟩ (.slice (some ⟨W.heap.size, 0, none⟩) n' cap')) := by
  have k := h.below hb
  exact ⟨k.bd.far (by simp) _, k.bp.far (by simp) _, k.be.far (by simp) _, by simpa using k.ba.set_ 0 (.slice (some ⟨W.heap.size, 0, none⟩) n' cap'), k.bi.far (by simp) _,
    k.hd.far (fun x => by have := hS _ x; dsimp only at this; omega) _, hl, holds_block hh (heap_setCell_other _ _ _ _ (by simp; omega)), by omega, by simp; omega, ⟨by omega, by omega, by omega⟩, hc, k.bl.setCell (by simp) _⟩
end

theorem results_read {fn : Func} {p q : Tmp} (h : fn.results = #[.cell p 60, .cell q 26]) (tmps : Array Value) (W : World) (g1 g2 : Nat) {t1 t2 : TypeId} {v0 v1 v2 v3 : Value} {x : Int} (hB1 : Blk W g1 t1 #[v0, v1, v2, v3]) (hB2 : Blk W g2 t2 #[.int .i64 x])
    (hp : tmps.getD p undef = .pointer (some ⟨g1, 0, none⟩)) (hq : tmps.getD q undef = .pointer (some ⟨g2, 0, none⟩)) : (results fn tmps).run Try.prog W = .ok (.tuple #[.agg #[v0, v1, v2, v3], .int .i64 x]) W := by
  have hp' : tmps[p]?.getD undef = .pointer (some ⟨g1, 0, none⟩) := by simpa using hp
  have hq' : tmps[q]?.getD undef = .pointer (some ⟨g2, 0, none⟩) := by simpa using hq
  have d0 : W.cell? ⟨g1, 0, none⟩ = some v0 := hB1.cell 0
  have d1 : W.cell? ⟨g1, 1, none⟩ = some v1 := hB1.cell 1
  have d2 : W.cell? ⟨g1, 2, none⟩ = some v2 := hB1.cell 2
  have d3 : W.cell? ⟨g1, 3, none⟩ = some v3 := hB1.cell 3
  have c2 : W.cell? ⟨g2, 0, none⟩ = some (.int .i64 x) := hB2.cell 0
  simp [results, h, hp', hq', asAddr, go_sem, c2, d0, d1, d2, d3]
/-- What Read leaves where it returns: the result's blocks, whatever lay as it lay. -/
def readEnd (w5 : World) (B : Nat) (v0 v1 v2 v3 : Value) (x : Int) (o1 o2 : Obj) : World := (((set4 w5 (B + 1) v0 v1 v2 v3).setCell ⟨B + 1 + 1, 0, none⟩ (.int .i64 x)).alloc o1).alloc o2
theorem readEnd_spec {w w5 : World} {g id n rb cap : Nat} {D : Dk} {S' : Nat → Prop} {l : List UInt8} (h : RdI w g id D S' n l rb cap w5) (hd : w5.heap[w.heap.size + 6]? = some (.deferred (some []))) (v0 v1 v2 v3 : Value) (x : Int) (o1 o2 : Obj) :
    (readEnd w5 w.heap.size v0 v1 v2 v3 x o1 o2).heap[w.heap.size + 6]? = some (.deferred (some [])) ∧
    ∀ o, Blk ((readEnd w5 w.heap.size v0 v1 v2 v3 x o1 o2).putObj (w.heap.size + 6) o) (w.heap.size + 1) 60 #[v0, v1, v2, v3] ∧ Blk ((readEnd w5 w.heap.size v0 v1 v2 v3 x o1 o2).putObj (w.heap.size + 6) o) (w.heap.size + 2) 26 #[.int .i64 x] ∧ Below w.heap.size w ((readEnd w5 w.heap.size v0 v1 v2 v3 x o1 o2).putObj (w.heap.size + 6) o) := by
  have hlt := (Array.getElem?_eq_some_iff.1 hd).1
  have e1 : ∀ k, k ≠ w.heap.size + 1 → k ≠ w.heap.size + 2 → k < w5.heap.size → (readEnd w5 w.heap.size v0 v1 v2 v3 x o1 o2).heap[k]? = w5.heap[k]? := by
    intro k h1 h2 h3
    unfold readEnd set4
    rw [Below.heap_alloc _ _ _ (by simp; omega), Below.heap_alloc _ _ _ (by simp; omega), heap_setCell_other _ _ _ _ (by simp; omega), heap_setCell_other _ _ _ _ (by simp; omega), heap_setCell_other _ _ _ _ (by simp; omega), heap_setCell_other _ _ _ _ (by simp; omega), heap_setCell_other _ _ _ _ (by simp; omega)]
  refine ⟨(e1 _ (by omega) (by omega) hlt).trans hd, fun o => ⟨?_, ?_, ?_⟩⟩
  · exact (((((h.bp.set4 v0 v1 v2 v3).far (by simp) _).alloc _).alloc _).putObj (by omega) _)
  · have h2 : Blk (set4 w5 (w.heap.size + 1) v0 v1 v2 v3) (w.heap.size + 2) 26 #[.int .i64 0] := (((h.be.far (by simp) _).far (by simp) _).far (by simp) _).far (by simp) _
    exact (((by simpa using h2.set_ 0 (.int .i64 x) : Blk ((set4 w5 (w.heap.size + 1) v0 v1 v2 v3).setCell ⟨w.heap.size + 2, 0, none⟩ (.int .i64 x)) (w.heap.size + 2) 26 #[.int .i64 x]).alloc o1).alloc o2).putObj (by omega) o
  · exact below_putObj (bl_al (bl_al ((below_set4 h.bl (by omega) _ _ _ _).setCell (by simp; omega) _) _) _) (by omega) _

set_option maxRecDepth 100000 in
set_option maxHeartbeats 8000000 in
theorem pread_ok (S : Nat → Prop) (g : Nat) (D : Dk) (id : Nat) (w : World) (h : Held S w g D) (hid : id < 16384) (hi : 4 * id + 3 < D.S.length) :
    Calls Try.prog 38 #[.pointer (some ⟨g, 0, none⟩), .int .u32 id] w fun e w' => e = .returned (preadV D id) ∧ Below w.heap.size w w' := by
  have HH := Lib.hid h
  clear h
  obtain ⟨R0, hR0⟩ : ∃ R0, preadV D id = R0 := ⟨_, rfl⟩
  rw [hR0]
  have HR0 := Lib.hid hR0
  clear hR0
  refine (callsIn_wide (n := 9)).1 (callsIn_of_wp_marks Try.func38 rfl trivial ?_ rfl)
  simp only [Try.ntmps38, List.size_toArray, List.length_cons, List.length_nil, Nat.reduceAdd, Nat.reduceSub, Array.replicate_succ, Array.replicate_zero, List.push_toArray, List.append_toArray, List.nil_append, List.cons_append]
  obtain ⟨C, hmk⟩ : ∃ C : Array Value, ∀ W : World, (Instr.makeSlice 64 (.int .i64 0) (.int .i64 256)).run Try.prog W = .ok (.slice (some ⟨W.heap.size, 0, none⟩) 0 256) (W.alloc (.cells C 5)) := by
    obtain ⟨i0, hi, hz0, hz1, hz2⟩ := info_parts info_u8
    exact ⟨_, fun W => run_make W _ _ i0 _ Try.underlying64 hi hz0 .i64 .i64 0 256 (by omega) (by omega) (by rw [hz2]; omega) (by omega)⟩
  gi_wp2_with fail
  refine ⟨trivial, (callsIn_wide.2 (psectors_any id _)).mono ?_⟩
  rintro e w2 ⟨rfl, rfl⟩
  obtain ⟨S', hS'⟩ : ∃ S' : Nat → Prop, S' = fun k => S k ∧ k < w.heap.size := ⟨_, rfl⟩
  have hSb : ∀ k, S' k → k < w.heap.size := fun k hk => by rw [hS'] at hk; exact hk.2
  have hH' : Held S' w g D := HH.out.sub fun k hk hs => by rw [hS']; exact ⟨hs, hk⟩
  clear hS'
  obtain ⟨w0, hw0⟩ : ∃ w0, (((((w.alloc (.cells #[.pointer (some ⟨g, 0, none⟩)] 25)).alloc (.cells #[.int .i64 0, .int .u32 0, .int .u64 0, .string ⟨#[]⟩] 60)).alloc (.cells #[.int .i64 0] 26)).alloc (.cells C 5)).alloc (.cells #[.slice (some ⟨w.heap.size + 1 + 1 + 1, 0, none⟩) 0 256] 64)).alloc (.cells #[.int .u32 (id : Int)] 57) = w0 := ⟨_, rfl⟩
  have hsz : w0.heap.size = w.heap.size + 6 := by rw [← hw0]; simp
  have h0 : RdI w g id D S' 0 [] (w.heap.size + 3) 256 w0 := by
    rw [← hw0]
    have e1 := Blk.new w 25 #[.pointer (some ⟨g, 0, none⟩)]
    have e2 := Blk.new (w.alloc (.cells #[.pointer (some ⟨g, 0, none⟩)] 25)) 60 #[.int .i64 0, .int .u32 0, .int .u64 0, .string ⟨#[]⟩]
    have e3 := Blk.new ((w.alloc (.cells #[.pointer (some ⟨g, 0, none⟩)] 25)).alloc (.cells #[.int .i64 0, .int .u32 0, .int .u64 0, .string ⟨#[]⟩] 60)) 26 #[.int .i64 0]
    have e5 := Blk.new ((((w.alloc (.cells #[.pointer (some ⟨g, 0, none⟩)] 25)).alloc (.cells #[.int .i64 0, .int .u32 0, .int .u64 0, .string ⟨#[]⟩] 60)).alloc (.cells #[.int .i64 0] 26)).alloc (.cells C 5)) 64 #[.slice (some ⟨w.heap.size + 1 + 1 + 1, 0, none⟩) 0 256]
    have e6 := Blk.new (((((w.alloc (.cells #[.pointer (some ⟨g, 0, none⟩)] 25)).alloc (.cells #[.int .i64 0, .int .u32 0, .int .u64 0, .string ⟨#[]⟩] 60)).alloc (.cells #[.int .i64 0] 26)).alloc (.cells C 5)).alloc (.cells #[.slice (some ⟨w.heap.size + 1 + 1 + 1, 0, none⟩) 0 256] 64)) 57 #[.int .u32 (id : Int)]
    simp only [World.size_alloc] at e2 e3 e5 e6
    exact ⟨((((e1.alloc _).alloc _).alloc _).alloc _).alloc _, (((e2.alloc _).alloc _).alloc _).alloc _, ((e3.alloc _).alloc _).alloc _, e5.alloc _, e6, (((((hH'.alloc _).alloc _).alloc _).alloc _).alloc _).alloc _, rfl, fun j hj => by simp at hj, by omega, by simp, ⟨by omega, by omega, by omega⟩, by omega, bl_al (bl_al (bl_al (bl_al (bl_al (bl_al (bl_re w) _) _) _) _) _) _⟩
  have e7 : w.heap.size + 1 + 1 + 1 + 1 + 1 = w.heap.size + 5 := by omega
  have H0 := Lib.hid h0
  clear h0 hH' HH
  gi_wp2_with fail
  clear hw0 hmk
  refine rf_sectors (Bi := w.heap.size + 5) (id := id) (by omega) (w.heap.size + 6) hsz rfl
    (fun k W => ∃ rb cap, RdI w g id D S' (64 * k) (D.pg id k) rb cap W ∧ (k = 0 ∨ w.heap.size + 8 ≤ W.heap.size)) ?ival ?all ?put ?zero ?round ?fin
  case ival =>
    rintro k W ⟨rb, cap, h, _⟩
    exact h.bi.cell 0
  case all =>
    rintro k W o ⟨rb, cap, h, h8⟩
    exact ⟨rb, cap, h.alloc o, by rw [World.size_alloc]; omega⟩
  case put =>
    rintro k W o ⟨rb, cap, h, h8⟩
    exact ⟨rb, cap, h.put hSb o, by simpa using h8⟩
  case zero => exact ⟨_, _, H0.out, .inl rfl⟩
  case round =>
    rintro k W x y z hk ⟨rb, cap, hI, _⟩ hx hy hlW
    obtain ⟨W1, hW1⟩ : ∃ W1, W.putObj (w.heap.size + 6 + 1) z = W1 := ⟨_, rfl⟩
    have hI1 : RdI w g id D S' (64 * k) (D.pg id k) rb cap W1 := by rw [← hW1]; exact hI.put hSb z
    have x1 : W1.heap[w.heap.size + 6]? = some x := by rw [← hW1]; exact (World.putObj_heap_other (by omega)).trans hx
    have z1 : W1.heap[w.heap.size + 6 + 1]? = some z := by rw [← hW1]; exact World.putObj_heap_same (by omega)
    have h8 : w.heap.size + 8 ≤ W1.heap.size := by rw [← hW1]; simp; omega
    have hr := read_ok S' g D (4 * id + k) W1 hI1.hd (by omega)
    rw [show ((4 * id + k : Nat) : Int) = 4 * (id : Int) + (k : Int) by omega] at hr
    have hrl := rd_len S' W1 g D hI1.hd (4 * id + k) (by omega)
    have hpg : D.pg id (k + 1) = D.pg id k ++ D.rd (4 * id + k) := rfl
    rw [hpg]
    obtain ⟨L, hL⟩ : ∃ L, D.pg id k = L := ⟨_, rfl⟩
    obtain ⟨R, hR⟩ : ∃ R, D.rd (4 * id + k) = R := ⟨_, rfl⟩
    rw [hL] at hI1 ⊢
    rw [hR] at hr hrl ⊢
    have d0 : W1.cell? ⟨w.heap.size, 0, none⟩ = some (.pointer (some ⟨g, 0, none⟩)) := hI1.bd.cell 0
    have KW := Lib.hid hW1
    have KR := Lib.hid hr
    have KI := Lib.hid (And.intro hI1 (And.intro x1 (And.intro z1 (And.intro h8 hrl))))
    have KY := Lib.hid hy
    clear hW1 hr hI1 x1 z1 h8 hrl hL hR hpg hI hx hy hlW
    gi_wp2_with fail
    refine ⟨KY.out, ?_⟩
    rw [KW.out]
    gi_wp2_with fail
    refine ⟨trivial, ((callsIn_wide.2 KR.out).inRound _).mono ?_⟩
    rintro e w2 ⟨rfl, hb2⟩
    have hI2 := KI.out.1.below hb2
    have q0 : w2.cell? ⟨w.heap.size + 1 + 1 + 1 + 1, 0, none⟩ = some (.slice (some ⟨rb, 0, none⟩) (64 * k) cap) := hI2.ba.cell 0
    have q1 : w2.frozen? ⟨w.heap.size + 1 + 1 + 1 + 1, 0, none⟩ = false := hI2.ba.frozen 0
    have hcp := hI2.cp
    have K2 := Lib.hid (And.intro hI2 (And.intro ((hb2.block _ (Array.getElem?_eq_some_iff.1 KI.out.2.1).1).trans KI.out.2.1) (And.intro ((hb2.block _ (Array.getElem?_eq_some_iff.1 KI.out.2.2.1).1).trans KI.out.2.2.1) (Nat.le_trans KI.out.2.2.2.1 hb2.size))))
    clear hI2 hb2
    obtain ⟨j0, hi0, hz0, hz1, hz2⟩ := info_parts info_u8
    have HI := Lib.hid (And.intro hi0 (And.intro hz0 (And.intro hz1 hz2)))
    clear hi0 hz0 hz1 hz2
    have HRL : Hid ((mk R).size = 64) := Lib.hid (by rw [mk_size]; exact KI.out.2.2.2.2)
    obtain ⟨n, hn⟩ : ∃ n, 64 * k = n := ⟨_, rfl⟩
    have hn2 : n ≤ 192 := by omega
    have hn3 : 64 * (k + 1) = n + 64 := by omega
    rw [hn] at K2 q0 hcp
    have HN := Lib.hid (And.intro hn hn3)
    have i0 : (0 : Int) ≤ (n : Int) := Int.natCast_nonneg _
    have i1 : (n : Int) ≤ (cap : Int) := by omega
    clear hn hn3
    gi_wp2_with (gi_at_builtin; refine in_append_grow rfl (.tmp 33) (.tmp 34) 64 9 rfl 5 j0 Try.underlying64 Try.underlying9 HI.out.1 HI.out.2.1 HI.out.2.2.1 HI.out.2.2.2 rb n n L K2.out.1.hl K2.out.1.hh (mk R) (by rw [HRL.out]; omega) (by rw [HRL.out]; omega) rfl rfl ?_; intro cap3 W3 hc3 hh3 hb3 hs3; have q3 := (hb3.cell (p := ⟨w.heap.size + 1 + 1 + 1 + 1, 0, none⟩) K2.out.1.ba.lt).trans q0; have q4 := (hb3.frozen (p := ⟨w.heap.size + 1 + 1 + 1 + 1, 0, none⟩) K2.out.1.ba.lt).trans q1; have K3 := Lib.hid (And.intro hc3 (And.intro hh3 (And.intro hb3 hs3))); clear hc3 hh3 hb3 hs3)
    have hs2 := K3.out.2.2.1.size
    rw [HN.out.2]
    rw [HRL.out] at K3 ⊢
    refine ⟨⟨⟨_, _, K2.out.1.grown hSb K3.out.2.2.1 K3.out.2.2.2 K2.out.2.2.2 (by rw [List.length_append, K2.out.1.hl, KI.out.2.2.2.2]) (by simpa [mk_toList] using K3.out.2.1) K3.out.1⟩, by have := K2.out.2.2.2; omega⟩, ?_, ?_⟩
    · rw [heap_setCell_other _ _ _ _ (by simp)]
      exact (K3.out.2.2.1.block _ (Array.getElem?_eq_some_iff.1 K2.out.2.1).1).trans K2.out.2.1
    · rw [heap_setCell_other _ _ _ _ (by simp)]
      exact (K3.out.2.2.1.block _ (Array.getElem?_eq_some_iff.1 K2.out.2.2.1).1).trans K2.out.2.2.1
  case fin =>
    rintro W ⟨rb, cap, h, _⟩ hd
    obtain ⟨L, hL⟩ : ∃ L, D.pg id 4 = L := ⟨_, rfl⟩
    rw [hL] at h
    have HR : Hid ((if decB L = true ∧ dId L = id then Value.tuple #[pageV (dKind L) (dId L) (dTx L) (dBody L), .int .i64 0] else .tuple #[pageZ, .int .i64 30]) = R0) := Lib.hid (by rw [← HR0.out, ← hL]; rfl)
    have hdec := fun W => decode_any (mk L) W (by rw [mk_size, h.hl]; unfold maxLen; omega)
    rw [mk_toList] at hdec
    have hcv := conv_back (P := Try.prog) W 64 9 5 rb cap 256 L Try.underlying64 Try.underlying5 Try.underlying9 h.hl h.hh
    have q0 : W.cell? ⟨w.heap.size + 1 + 1 + 1 + 1, 0, none⟩ = some (.slice (some ⟨rb, 0, none⟩) 256 cap) := h.ba.cell 0
    have HW := Lib.hid (And.intro h hd)
    clear h hd hL H0 HR0
    by_cases hb : decB L = true
    · have hrt := ((decB_iff L).1 hb).2.2.1
      have hr3 := (rightB_iff _ _ _ _).1 hrt
      unfold decV pageV at hdec
      rw [if_pos hb] at hdec
      have hk0 : ((dKind L : Int) == 0) = false := by rw [beq_eq_false_iff_ne]; omega
      have hdi := dId_lt L
      unfold pageV at HR
      obtain ⟨k, hk⟩ : ∃ k, dKind L = k := ⟨_, rfl⟩
      obtain ⟨i, hi2⟩ : ∃ i, dId L = i := ⟨_, rfl⟩
      obtain ⟨t, ht⟩ : ∃ t, dTx L = t := ⟨_, rfl⟩
      obtain ⟨b, hbb⟩ : ∃ b, mk (dBody L) = b := ⟨_, rfl⟩
      rw [hk] at hk0
      rw [hi2] at hdi
      rw [hk, hi2, ht, hbb] at hdec HR
      have HD := Lib.hid hdec
      have HB := Lib.hid hb
      clear hdec hb hrt hr3 hk hi2 ht hbb
      by_cases hid2 : i = id
      · have d1 : ((i : Int) != (id : Int)) = false := by simp [hid2]
        have HID := Lib.hid hid2
        clear hid2
        gi_wp2_with fail
        refine ⟨trivial, (callsIn_wide.2 (HD.out _)).mono ?_⟩
        rintro e w5 ⟨rfl, hb5⟩
        have h5 := HW.out.1.below hb5
        have l0 : w.heap.size < w5.heap.size := h5.bd.lt
        have l1 : w.heap.size + 1 < w5.heap.size := h5.bp.lt
        have l2 : w.heap.size + 1 + 1 < w5.heap.size := h5.be.lt
        have a0 : w5.cell? ⟨w.heap.size + 1, 0, none⟩ = some (.int .i64 0) := h5.bp.cell 0
        have a1 : w5.cell? ⟨w.heap.size + 1, 1, none⟩ = some (.int .u32 0) := h5.bp.cell 1
        have a2 : w5.cell? ⟨w.heap.size + 1, 2, none⟩ = some (.int .u64 0) := h5.bp.cell 2
        have a3 : w5.cell? ⟨w.heap.size + 1, 3, none⟩ = some (.string ⟨#[]⟩) := h5.bp.cell 3
        have a4 : w5.cell? ⟨w.heap.size + 1 + 1, 0, none⟩ = some (.int .i64 0) := h5.be.cell 0
        have f0 := h5.bp.frozen 0
        have f1 := h5.bp.frozen 1
        have f2 := h5.bp.frozen 2
        have f3 := h5.bp.frozen 3
        have f4 : w5.frozen? ⟨w.heap.size + 1 + 1, 0, none⟩ = false := h5.be.frozen 0
        have H5 := Lib.hid (And.intro h5 ((hb5.block _ (Array.getElem?_eq_some_iff.1 HW.out.2).1).trans HW.out.2))
        clear h5 hb5
        gi_wp2_with fail
        obtain ⟨s1, s2⟩ := readEnd_spec H5.out.1 H5.out.2 (.int .i64 (k : Int)) (.int .u32 (i : Int)) (.int .u64 (t : Int)) (.string b) 0 (.cells #[.int .i64 (k : Int), .int .u32 (i : Int), .int .u64 (t : Int), .string b] 60) (.cells #[.int .i64 0, .int .u32 0, .int .u64 0, .string ⟨#[]⟩] 60)
        refine ⟨by simp, .inl ⟨_, _, rfl, run_takeDeferred s1, ?_⟩⟩
        obtain ⟨r1, r2, r3⟩ := s2 (.deferred none)
        refine ⟨_, results_read rfl _ _ _ _ r1 r2 rfl rfl, ?_, r3⟩
        rw [← HR.out, if_pos ⟨HB.out, HID.out⟩]
      · have d1 : ((i : Int) != (id : Int)) = true := by simp; omega
        have HID := Lib.hid hid2
        clear hid2
        gi_wp2_with fail
        refine ⟨trivial, (callsIn_wide.2 (HD.out _)).mono ?_⟩
        rintro e w5 ⟨rfl, hb5⟩
        have h5 := HW.out.1.below hb5
        have l0 : w.heap.size < w5.heap.size := h5.bd.lt
        have l1 : w.heap.size + 1 < w5.heap.size := h5.bp.lt
        have l2 : w.heap.size + 1 + 1 < w5.heap.size := h5.be.lt
        have a0 : w5.cell? ⟨w.heap.size + 1, 0, none⟩ = some (.int .i64 0) := h5.bp.cell 0
        have a1 : w5.cell? ⟨w.heap.size + 1, 1, none⟩ = some (.int .u32 0) := h5.bp.cell 1
        have a2 : w5.cell? ⟨w.heap.size + 1, 2, none⟩ = some (.int .u64 0) := h5.bp.cell 2
        have a3 : w5.cell? ⟨w.heap.size + 1, 3, none⟩ = some (.string ⟨#[]⟩) := h5.bp.cell 3
        have a4 : w5.cell? ⟨w.heap.size + 1 + 1, 0, none⟩ = some (.int .i64 0) := h5.be.cell 0
        have f0 := h5.bp.frozen 0
        have f1 := h5.bp.frozen 1
        have f2 := h5.bp.frozen 2
        have f3 := h5.bp.frozen 3
        have f4 : w5.frozen? ⟨w.heap.size + 1 + 1, 0, none⟩ = false := h5.be.frozen 0
        have H5 := Lib.hid (And.intro h5 ((hb5.block _ (Array.getElem?_eq_some_iff.1 HW.out.2).1).trans HW.out.2))
        clear h5 hb5
        gi_wp2_with fail
        obtain ⟨s1, s2⟩ := readEnd_spec H5.out.1 H5.out.2 (.int .i64 0) (.int .u32 0) (.int .u64 0) (.string ⟨#[]⟩) 30 (.cells #[.int .i64 (k : Int), .int .u32 (i : Int), .int .u64 (t : Int), .string b] 60) (.cells #[.int .i64 0, .int .u32 0, .int .u64 0, .string ⟨#[]⟩] 60)
        refine ⟨by simp, .inl ⟨_, _, rfl, run_takeDeferred s1, ?_⟩⟩
        obtain ⟨r1, r2, r3⟩ := s2 (.deferred none)
        refine ⟨_, results_read rfl _ _ _ _ r1 r2 rfl rfl, ?_, r3⟩
        rw [← HR.out, if_neg (fun x => HID.out x.2)]
        rfl
    · unfold decV pageZ at hdec
      rw [if_neg hb] at hdec
      have HD := Lib.hid hdec
      have HB := Lib.hid hb
      clear hdec hb
      gi_wp2_with fail
      refine ⟨trivial, (callsIn_wide.2 (HD.out _)).mono ?_⟩
      rintro e w5 ⟨rfl, hb5⟩
      have h5 := HW.out.1.below hb5
      have l0 : w.heap.size < w5.heap.size := h5.bd.lt
      have l1 : w.heap.size + 1 < w5.heap.size := h5.bp.lt
      have l2 : w.heap.size + 1 + 1 < w5.heap.size := h5.be.lt
      have a0 : w5.cell? ⟨w.heap.size + 1, 0, none⟩ = some (.int .i64 0) := h5.bp.cell 0
      have a1 : w5.cell? ⟨w.heap.size + 1, 1, none⟩ = some (.int .u32 0) := h5.bp.cell 1
      have a2 : w5.cell? ⟨w.heap.size + 1, 2, none⟩ = some (.int .u64 0) := h5.bp.cell 2
      have a3 : w5.cell? ⟨w.heap.size + 1, 3, none⟩ = some (.string ⟨#[]⟩) := h5.bp.cell 3
      have a4 : w5.cell? ⟨w.heap.size + 1 + 1, 0, none⟩ = some (.int .i64 0) := h5.be.cell 0
      have f0 := h5.bp.frozen 0
      have f1 := h5.bp.frozen 1
      have f2 := h5.bp.frozen 2
      have f3 := h5.bp.frozen 3
      have f4 : w5.frozen? ⟨w.heap.size + 1 + 1, 0, none⟩ = false := h5.be.frozen 0
      have H5 := Lib.hid (And.intro h5 ((hb5.block _ (Array.getElem?_eq_some_iff.1 HW.out.2).1).trans HW.out.2))
      clear h5 hb5
      gi_wp2_with fail
      obtain ⟨s1, s2⟩ := readEnd_spec H5.out.1 H5.out.2 (.int .i64 0) (.int .u32 0) (.int .u64 0) (.string ⟨#[]⟩) 30 (.cells #[.int .i64 0, .int .u32 0, .int .u64 0, .string ⟨#[]⟩] 60) (.cells #[.int .i64 0, .int .u32 0, .int .u64 0, .string ⟨#[]⟩] 60)
      refine ⟨by simp, .inl ⟨_, _, rfl, run_takeDeferred s1, ?_⟩⟩
      obtain ⟨r1, r2, r3⟩ := s2 (.deferred none)
      refine ⟨_, results_read rfl _ _ _ _ r1 r2 rfl rfl, ?_, r3⟩
      rw [← HR.out, if_neg (fun x => HB.out x.1)]
      rfl
end Go.Proofs.Ytmbjbckjfkijmaa
