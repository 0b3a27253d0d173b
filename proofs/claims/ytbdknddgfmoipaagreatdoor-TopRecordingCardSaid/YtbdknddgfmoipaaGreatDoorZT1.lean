import Derived.RangeFuncNested
import Derived.RangeFuncBound
import Derived.RangeFuncCalls
import Derived.RangeFuncLeaves
import Derived.Shelf.Abstract
import Derived.Shelf.RegionOpen
import Derived.WalkKit
import Derived.OwnWalkIn
import Derived.TacticsInMore
import Derived.LoopNIn
import Derived.LoopIn
import Derived.Maps.AppendAt
import Derived.StillTailTactics
import Derived.Lib.Hide
import Derived.Lib.LazyBuf
import Derived.Outline
import Derived.Deep.RegionWith
import Derived.Deep.RegionLaw
import Derived.Deep.RegionHeld3
import Derived.Deep.CutBlock
import Derived.Deep.AppendLies
import Derived.Deep.DeepCutAuto
import Derived.Lib.Bytes
import Derived.Lib.SmallJoins
import Derived.Laws.EntriesVeiled
import Derived.BigRegion
import Derived.BigQuiet
import Derived.CallsIn
import Derived.Laws.CopyOwn
import Derived.Laws.MakeOwn
import Derived.LaidEqlPtr
import Derived.Test.YtbdknddgfmoipaaGreatDoorProg
import Derived.Test.YtbdknddgfmoipaaGreatDoorZW
import Derived.Test.YtbdknddgfmoipaaGreatDoorZQ1
set_option linter.unusedVariables false
set_option linter.unusedSimpArgs false
namespace Go.Proofs.YtbdknddgfmoipaaGreatDoor.TQ
open Go.RowKit Go.Shelf Go.Proofs.YtbdknddgfmoipaaGreatDoorW.PrintWords Go.Proofs.YtbdknddgfmoipaaGreatDoorW.PrintLast Go.Proofs.YtbdknddgfmoipaaGreatDoorW.PrintMore
set_option linter.unusedVariables false
set_option linter.unusedSimpArgs false

/-- a queue: what waits, for how many there is room, whether its end was told -/
structure Qz where
  xs : List Int
  most : Nat
  ended : Bool

def ringV (g : Option Nat) (n : Nat) : Value := match g with | none => .slice none 0 0 | some g => .slice (some ⟨g, 0, none⟩) n n
def qcells (g : Option Nat) (n first : Nat) (q : Qz) : Array Value := #[ringV g n, .int .i64 first, .int .i64 q.xs.length, .int .i64 q.most, .bool q.ended]

/-- .. in memory: in block b, its ring in block g -/
structure QAt (W : World) (b : Nat) (g : Option Nat) (q : Qz) (cs : List Value) (first : Nat) : Prop where
  blk : W.heap[b]? = some (.cells (qcells g cs.length first q) 189 (0, 0))
  ring : ∀ r, g = some r → W.heap[r]? = some (.cells ⟨cs⟩ 5 (0, 0)) ∧ r ≠ b
  nul : g = Option.none → cs = []
  len : q.xs.length ≤ cs.length
  most : cs.length ≤ q.most
  big : q.most ≤ 65536
  fle : first ≤ cs.length
  val : ∀ (i : Nat) (x : Int), q.xs[i]? = some x → cs[(first + i) % cs.length]? = some (.int .u8 x)

section
variable {W W' : World} {b : Nat} {g : Option Nat} {q : Qz} {cs : List Value} {first : Nat}
theorem QAt.cell (h : QAt W b g q cs first) (j : Nat) : W.cell? ⟨b, j, none⟩ = (qcells g cs.length first q)[j]? := by simp [World.cell?, h.blk]
theorem QAt.cells (h : QAt W b g q cs first) : W.cell? ⟨b, 0, none⟩ = some (ringV g cs.length) ∧ W.cell? ⟨b, 1, none⟩ = some (.int .i64 first) ∧ W.cell? ⟨b, 2, none⟩ = some (.int .i64 q.xs.length) ∧ W.cell? ⟨b, 3, none⟩ = some (.int .i64 q.most) ∧ W.cell? ⟨b, 4, none⟩ = some (.bool q.ended) :=
  ⟨h.cell 0, h.cell 1, h.cell 2, h.cell 3, h.cell 4⟩

set_option maxRecDepth 100000 in
theorem q_Len (h : QAt W b g q cs first) : Calls Tryz.prog 96 #[.pointer (some ⟨b, 0, none⟩)] W fun e W' => e = .returned (.int .i64 q.xs.length) ∧ W' = W := by
  obtain ⟨h0, h1, h2, h3, h4⟩ := h.cells
  clear h h0 h1 h3 h4
  go_enter Tryz.func96, Tryz.ntmps96
  go_wp2
  go_ret
  exact ⟨rfl, rfl⟩

set_option maxRecDepth 100000 in
theorem q_Over (h : QAt W b g q cs first) : Calls Tryz.prog 95 #[.pointer (some ⟨b, 0, none⟩)] W fun e W' => e = .returned (.bool (q.ended && q.xs.isEmpty)) ∧ W' = W := by
  obtain ⟨h0, h1, h2, h3, h4⟩ := h.cells
  have hE : q.xs.isEmpty = decide ((q.xs.length : Int) = 0) := by cases q.xs <;> simp; omega
  rw [hE]
  generalize q.ended = en at h4 ⊢
  clear h h0 h1 h3 hE
  cases en
  · go_enter Tryz.func95, Tryz.ntmps95
    go_wp2
    go_ret
    exact ⟨rfl, rfl⟩
  · go_enter Tryz.func95, Tryz.ntmps95
    go_wp2
    go_ret
    refine ⟨?_, rfl⟩
    show Ending.returned (Value.bool _) = Ending.returned (Value.bool _)
    rw [Bool.true_and, Bool.beq_eq_decide_eq]

set_option maxRecDepth 100000 in
theorem q_Room (h : QAt W b g q cs first) : Calls Tryz.prog 73 #[.pointer (some ⟨b, 0, none⟩)] W fun e W' => e = .returned (.int .i64 (if q.ended then 0 else (q.most - q.xs.length : Nat))) ∧ Below W.heap.size W W' ∧ W'.heap = W.heap := by
  obtain ⟨h0, h1, h2, h3, h4⟩ := h.cells
  have hl := h.len; have hm := h.most; have hb := h.big
  have HW := Lib.hid (show IntKind.i64.wrap ((q.most : Int) - (q.xs.length : Int)) = ((q.most - q.xs.length : Nat) : Int) by rw [IntKind.wrap_i64]; omega)
  have d2 : W.drew.cell? ⟨b, 2, none⟩ = some (.int .i64 q.xs.length) := h2
  have d3 : W.drew.cell? ⟨b, 3, none⟩ = some (.int .i64 q.most) := h3
  generalize q.ended = en at h4 ⊢
  clear h h0 h1 hl hm hb
  cases en
  · go_enter Tryz.func73, Tryz.ntmps73
    go_wp2
    go_quiet (fail)
    go_wp2
    go_ret
    refine ⟨?_, pw_below_drewN (Below.refl _ _) _, rfl⟩
    show Ending.returned (Value.int _ _) = Ending.returned (Value.int _ _)
    exact congrArg _ (congrArg _ ((IntWalk.i64_left _).symm.trans HW.out))
  · go_enter Tryz.func73, Tryz.ntmps73
    go_wp2
    go_ret
    exact ⟨by simp, Below.refl _ _, rfl⟩

theorem q_at {w : World} (h : QAt W b g q cs first) (hb : Below W.heap.size W w) {j : Nat} (hj : j < q.xs.length) : ∃ L r x p s, cs.length = L ∧ g = some r ∧ w.cell? ⟨b, 0, none⟩ = some (.slice (some ⟨r, 0, none⟩) L L) ∧ w.cell? ⟨b, 1, none⟩ = some (.int .i64 first) ∧ w.cell? ⟨r, p, none⟩ = some (.int .u8 x) ∧ IntKind.i64.wrap ((first : Int) + (j : Int)) = ((s : Nat) : Int) ∧ Int.tmod ((s : Nat) : Int) (L : Int) = (p : Int) ∧ p < L ∧ q.xs[j]? = some x := by
  have h1 := h.len; have h2 := h.most; have h3 := h.big; have h4 := h.fle
  cases g with
  | none => have := h.nul rfl; subst this; simp only [List.length_nil] at h1; omega
  | some r =>
    have hxj : q.xs[j]? = some q.xs[j] := List.getElem?_eq_getElem hj
    have hv := h.val j _ hxj
    refine ⟨cs.length, r, q.xs[j], (first + j) % cs.length, first + j, rfl, rfl, pw_cell_below hb h.cells.1, pw_cell_below hb h.cells.2.1, pw_cell_below hb ?_, ?_, ?_, Nat.mod_lt _ (by omega), hxj⟩
    · have := (h.ring r rfl).1
      simp only [World.cell?, this, Option.bind_some]
      simpa using hv
    · rw [IntKind.wrap_i64]; omega
    · rw [Int.tmod_eq_emod_of_nonneg (by omega)]; rfl
theorem info5 : (Tryz.prog.info? 5).map (fun i => (i.zero, i.size, i.bytes)) = some (some (.int .u8 0), 1, 1) := by kernel_rfl
theorem min_is (x y z : Int) (h : z = min x y) (ats : Array TypeId) (ty : TypeId) : Builtin.min_ ats ty #[.int .i64 x, .int .i64 y] = pure (.int .i64 z) := by
  have : (if y < x then y else x) = z := by rw [h]; split <;> omega
  rw [min_two, min2_int, this]; rfl
theorem max_is (x y z : Int) (h : z = max x y) (ats : Array TypeId) (ty : TypeId) : Builtin.max_ ats ty #[.int .i64 x, .int .i64 y] = pure (.int .i64 z) := by
  have : (if x < y then y else x) = z := by rw [h]; split <;> omega
  rw [max_two, max2_int, this]; rfl

set_option maxRecDepth 100000 in
set_option maxHeartbeats 1000000 in
theorem q_Peek (h : QAt W b g q cs first) (n : Int) (m : Nat) (hm : m = min n.toNat q.xs.length) : Calls Tryz.prog 75 #[.pointer (some ⟨b, 0, none⟩), .int .i64 n] W fun e W' => ∃ v, e = .returned v ∧ W'.ownsRow W.heap.size 5 1 v m (nums .u8 (q.xs.take m)) ∧ Below W.heap.size W W' := by
  obtain ⟨mi, hmi⟩ : ∃ mi : Int, mi = min n q.xs.length := ⟨_, rfl⟩
  have hma := max_is 0 mi (m : Int) (by omega)
  replace hmi := min_is n q.xs.length mi hmi
  have hb1 : m ≤ q.xs.length := by omega
  have HQ := Lib.hid h
  have HM := Lib.hid hm
  have HB1 := Lib.hid hb1
  obtain ⟨i0, hi0, hz0, hz1, hz2⟩ := info_parts info5
  clear h hm hb1
  go_enter Tryz.func75, Tryz.ntmps75
  go_wp2_with (go_at_call 96; refine (q_Len HQ.out).mono ?_; rintro e W0 ⟨rfl, rfl⟩)
  go_loopg [5, 6, 12] (m + 1) (fun kq v5 v6 v12 w1 => ∃ j : Nat, v12 = .int .i64 j ∧ Aside0 (j ≤ m ∧ kq = m + 1 - j) ∧ Aside0 (w1.ownsRow W0.heap.size 5 1 v5 j (nums .u8 (q.xs.take j))) ∧ Aside0 (Below W0.heap.size W0 w1))
  case atStart => exact ⟨0, rfl, ⟨Nat.zero_le _, rfl⟩, ⟨by simpa [nums] using World.ownsRow_nil _ _ _ _⟩, ⟨Below.refl _ _⟩⟩
  case round =>
    obtain ⟨j, rfl, HJ, HO, HB⟩ := hrel
    clear hmi hma
    by_cases hjm : j < m
    · have hjd : decide ((j : Int) < (m : Int)) = true := decide_eq_true (by omega)
      obtain ⟨L, r, x, p, s, hL, hr, hd0, hd1, hdx, hs, hp, hpl, hxj⟩ := q_at HQ.out (Below.refl _ _) (j := j) (by have := HB1.out; omega)
      have hc0 := pw_cell_below HB.out hd0
      have hc1 := pw_cell_below HB.out hd1
      have hx := pw_cell_below HB.out hdx
      have h0L : ¬ ((L : Int) = 0) := by omega
      have h0L' : ¬ (L = 0) := by omega
      have h0p : (0 : Int) ≤ (p : Int) := by omega
      have hpl' : (p : Int) < (L : Int) := by omega
      have hlt : (q.xs.take j).length = j := by rw [List.length_take]; have := HB1.out; omega
      clear hL hpl
      have HLe := Lib.hid (show j + 1 ≤ 65536 by have := HB1.out; have := HQ.out.len; have := HQ.out.most; have := HQ.out.big; omega)
      have HZ := Lib.hid HB.out.size
      have ho := HO.out
      clear hlt
      go_wp2
      go_region_held3 (fun w' => w'.cell? ⟨b, 0, none⟩ = some (.slice (some ⟨r, 0, none⟩) L L) ∧ w'.cell? ⟨b, 1, none⟩ = some (.int .i64 first) ∧ w'.cell? ⟨r, p, none⟩ = some (.int .u8 x)) (first | exact ⟨hc0, hc1, hx⟩ | go_keep | exact ⟨pw_cell_below HB2.out hd0, pw_cell_below HB2.out hd1, pw_cell_below HB2.out hdx⟩)
        (((refine step_append_lies _ (by rfl) _ _ _ (by rfl) W0.heap.size 5 i0 _ 1 1 Tryz.underlying25 hi0 hz0 hz1 hz2 rfl (by decide) u5 j (nums .u8 (q.xs.take j)) (by rfl) ((ho.alloc _).drew) ⟨wr.heap.size, 0, none⟩ 1 1 [.int .u8 x] (by rfl) (by rfl) (World.news_of_block (cs := #[.int .u8 x]) (t := 5) (fr := (0, 0)) (heap_alloc_new wr _)) (by simp [Value.oneCell']) (by decide) (Nat.le_trans HLe.out (by decide)) (by have := HLe.out; omega) (by have := HZ.out; simp; omega) (wr.heap.size + 1) (by simp) ?_); intro gg cap w1 hown1 hgrow hat hlt; go_loud (have HB2 := Lib.hid ((below_drew (HB.out.alloc HZ.out _)).grown hgrow (by have := HZ.out; simp; omega) (own_base ho))); clear hgrow hat hlt))
      go_wp2
      go_roundg (m - j)
      case measure => have := HJ.out; omega
      case rel => exact ⟨j + 1, congrArg _ (by have := HLe.out; rw [IntWalk.wrap64_in _ (by omega)]; rfl), ⟨by omega, by have := HJ.out; omega⟩, ⟨by rw [List.take_add_one, hxj]; simpa [nums] using hown1⟩, ⟨HB2.out⟩⟩
    · have hjd : decide ((j : Int) < (m : Int)) = false := decide_eq_false (by omega)
      go_wp2
      go_ret
      obtain rfl : j = m := by have := HJ.out; omega
      exact ⟨_, rfl, HO.out, HB.out⟩
end
end Go.Proofs.YtbdknddgfmoipaaGreatDoor.TQ
namespace Go.Proofs.YtbdknddgfmoipaaGreatDoor.TQ
open Go.RowKit Go.Shelf Go.Proofs.YtbdknddgfmoipaaGreatDoorW.PrintWords Go.Proofs.YtbdknddgfmoipaaGreatDoorW.PrintLast Go.Proofs.YtbdknddgfmoipaaGreatDoorW.PrintMore
set_option linter.unusedVariables false
set_option linter.unusedSimpArgs false


/-- only blocks of F, of those that were there, may have turned -/
structure Ch (F : List Nat) (W W' : World) : Prop where
  os : W'.os = W.os
  tape : W'.tape = W.tape
  output : W'.output = W.output
  size : W.heap.size ≤ W'.heap.size
  block : ∀ k, k < W.heap.size → k ∉ F → W'.heap[k]? = W.heap[k]?

section
variable {F F1 : List Nat} {W W1 W2 W' : World} {b : Nat} {g : Option Nat} {q : Qz} {cs : List Value} {first : Nat}
theorem Ch.refl (F : List Nat) (W : World) : Ch F W W := ⟨rfl, rfl, rfl, Nat.le_refl _, fun _ _ _ => rfl⟩
theorem Ch.trans (h : Ch F W W1) (h1 : Ch F1 W1 W2) (hF : ∀ k ∈ F1, k ∈ F ∨ W.heap.size ≤ k) : Ch F W W2 :=
  ⟨h1.os.trans h.os, h1.tape.trans h.tape, h1.output.trans h.output, Nat.le_trans h.size h1.size, fun k hk hn => (h1.block k (Nat.lt_of_lt_of_le hk h.size) (fun hk1 => (hF k hk1).elim hn (fun h2 => absurd hk (Nat.not_lt.mpr h2)))).trans (h.block k hk hn)⟩
theorem Ch.of_below (h : Below W.heap.size W W1) (F : List Nat) : Ch F W W1 := ⟨h.os, h.tape, h.output, h.size, fun k hk _ => h.block k hk⟩
theorem Ch.below (h : Ch F W W1) {B : Nat} (hB : B ≤ W.heap.size) (hF : ∀ k ∈ F, B ≤ k) : Below B W W1 :=
  ⟨h.os, h.tape, h.output, h.size, fun k hk => h.block k (Nat.lt_of_lt_of_le hk hB) (fun hk1 => absurd hk (Nat.not_lt.mpr (hF k hk1)))⟩
theorem Ch.nil (h : Ch [] W W1) : Below W.heap.size W W1 := h.below (Nat.le_refl _) (by simp)
theorem Ch.mono (h : Ch F W W1) (hF : ∀ k ∈ F, k ∈ F1 ∨ W.heap.size ≤ k) : Ch F1 W W1 := ⟨h.os, h.tape, h.output, h.size, fun k hk hn => h.block k hk (fun h1 => (hF k h1).elim hn (fun h2 => absurd hk (Nat.not_lt.mpr h2)))⟩
theorem Ch.set (h : Ch F W W1) (hb : b ∈ F ∨ W.heap.size ≤ b) (j : Nat) (v : Value) : Ch F W (W1.setCell ⟨b, j, none⟩ v) :=
  ⟨h.os, h.tape, h.output, by simpa [World.setCell] using h.size, fun k hk hn => (Below.heap_setCell W1 ⟨b, j, none⟩ v k (by rintro rfl; rcases hb with hb | hb; exact hn hb; omega)).trans (h.block k hk hn)⟩
theorem Ch.drewN (h : Ch F W W1) (n : Nat) : Ch F W (W1.drewN n) := ⟨h.os, h.tape, h.output, h.size, h.block⟩
theorem Ch.drew (h : Ch F W W1) : Ch F W W1.drew := ⟨h.os, h.tape, h.output, h.size, h.block⟩
theorem Ch.alloc (h : Ch F W W1) (o : Obj) : Ch F W (W1.alloc o) := h.trans (Ch.of_below (below_alloc (Below.refl _ _) o) []) (by simp)
theorem Ch.cell (h : Ch F W W1) {a : Addr} {v : Value} (hc : W.cell? a = some v) (ha : a.block ∉ F) : W1.cell? a = some v := by
  have := h.block a.block (World.block_lt_of_cell? W a hc) ha
  simp only [World.cell?, this] at hc ⊢
  exact hc
theorem lt_of_heap {W : World} {k : Nat} {o : Obj} (h : W.heap[k]? = some o) : k < W.heap.size := (Array.getElem?_eq_some_iff.1 h).1
theorem Ch.heap (h : Ch F W W1) {k : Nat} {o : Obj} (hk : W.heap[k]? = some o) (hn : k ∉ F) : W1.heap[k]? = some o := (h.block k (lt_of_heap hk) hn).trans hk

theorem QAt.frame (h : QAt W b g q cs first) (hc : Ch F W W1) (hF : ∀ k ∈ b :: g.toList, k ∉ F) : QAt W1 b g q cs first :=
  ⟨hc.heap h.blk (hF b (by simp)), fun r hr => ⟨hc.heap (h.ring r hr).1 (hF r (by simp [hr])), (h.ring r hr).2⟩, h.nul, h.len, h.most, h.big, h.fle, h.val⟩

/-- the queue in its blocks F -/
def QIs (W : World) (b : Nat) (F : List Nat) (q : Qz) : Prop := ∃ g cs first, QAt W b g q cs first ∧ F = b :: g.toList
theorem QIs.frame (h : QIs W b F q) (hc : Ch F1 W W1) (hF : ∀ k ∈ F, k ∉ F1) : QIs W1 b F q := by
  obtain ⟨g, cs, first, h, rfl⟩ := h
  exact ⟨g, cs, first, h.frame hc hF, rfl⟩
theorem QIs.mem (h : QIs W b F q) : b ∈ F := by obtain ⟨g, cs, first, h, rfl⟩ := h; simp
theorem QIs.lt (h : QIs W b F q) : ∀ k ∈ F, k < W.heap.size := by
  obtain ⟨g, cs, first, h, rfl⟩ := h
  intro k hk
  rcases List.mem_cons.mp hk with rfl | hk
  · exact lt_of_heap h.blk
  · cases g with
    | none => simp at hk
    | some r => simp at hk; subst hk; exact lt_of_heap (h.ring k rfl).1

theorem QAt.end_ (h : QAt W b g q cs first) : QAt (W.setCell ⟨b, 4, none⟩ (.bool true)) b g { q with ended := true } cs first :=
  ⟨by rw [blk_set h.blk]; rfl, fun r hr => ⟨blk_far (h.ring r hr).1 (by exact (h.ring r hr).2) _, (h.ring r hr).2⟩, h.nul, h.len, h.most, h.big, h.fle, h.val⟩

set_option maxRecDepth 100000 in
theorem q_End (h : QIs W b F q) : Calls Tryz.prog 53 #[.pointer (some ⟨b, 0, none⟩)] W fun e W' => e = .returned (.tuple #[]) ∧ QIs W' b F { q with ended := true } ∧ Ch F W W' := by
  obtain ⟨g, cs, first, h, rfl⟩ := h
  obtain ⟨h0, h1, h2, h3, h4⟩ := h.cells
  have HQ := Lib.hid h
  have f4 := blk_frozen h.blk 4
  clear h h0 h1 h2 h3
  go_enter Tryz.func53, Tryz.ntmps53
  go_wp2
  go_end0
  exact ⟨rfl, ⟨g, cs, first, HQ.out.end_, rfl⟩, (Ch.refl _ _).set (by simp) _ _⟩

set_option maxRecDepth 100000 in
theorem q_New (m : Nat) (h1 : 1 ≤ m) (h2 : m ≤ 65536) : Calls Tryz.prog 45 #[.int .i64 m] W fun e W' => ∃ b, e = .returned (.tuple #[.pointer (some ⟨b, 0, none⟩), .int .i64 0]) ∧ QIs W' b [b] ⟨[], m, false⟩ ∧ W.heap.size ≤ b ∧ Below W.heap.size W W' := by
  have e1 : decide ((m : Int) < 1) = false := decide_eq_false (by omega)
  have e2 : decide ((65536 : Int) < (m : Int)) = false := decide_eq_false (by omega)
  go_enter Tryz.func45, Tryz.ntmps45
  go_wp2
  go_ret2
  refine ⟨W.heap.size, rfl, ⟨none, [], 0, ⟨World.alloc_heap_new W _, by simp, fun _ => rfl, by simp, by simp, h2, by simp, by simp⟩, rfl⟩, Nat.le_refl _, below_alloc (Below.refl _ _) _⟩

theorem QAt.take (h : QAt W b g q cs first) (m : Nat) (hm : m ≤ q.xs.length) (h0 : 0 < m) : QAt ((W.setCell ⟨b, 1, none⟩ (.int .i64 ((first + m) % cs.length : Nat))).setCell ⟨b, 2, none⟩ (.int .i64 (q.xs.length - m : Nat))) b g { q with xs := q.xs.drop m } cs ((first + m) % cs.length) := by
  have hl := h.len
  have hp : 0 < cs.length := by omega
  refine ⟨?_, fun r hr => ⟨blk_far (blk_far (h.ring r hr).1 (by exact (h.ring r hr).2) _) (by exact (h.ring r hr).2) _, (h.ring r hr).2⟩, h.nul, ?_, h.most, h.big, Nat.le_of_lt (Nat.mod_lt _ hp), ?_⟩
  · rw [blk_set (blk_set h.blk 1 _) 2]
    simp [qcells]
  · simp only [List.length_drop]; omega
  · intro i x hx
    have := h.val (m + i) x (by rw [List.getElem?_drop] at hx; exact hx)
    rw [Nat.mod_add_mod, Nat.add_assoc]
    exact this


set_option maxRecDepth 100000 in
set_option maxHeartbeats 1000000 in
theorem q_Take0 (h : QIs W b F q) (n : Int) (m : Nat) (hm : m = min n.toNat q.xs.length) (h0 : m = 0) : Calls Tryz.prog 52 #[.pointer (some ⟨b, 0, none⟩), .int .i64 n] W fun e W' => ∃ v, e = .returned v ∧ W'.ownsRow W.heap.size 5 1 v m (nums .u8 (q.xs.take m)) ∧ QIs W' b F { q with xs := q.xs.drop m } ∧ Ch F W W' := by
  obtain ⟨g, cs, first, h, rfl⟩ := h
  subst h0
  have HQ := Lib.hid h
  have HM := Lib.hid hm
  clear h hm
  go_enter Tryz.func52, Tryz.ntmps52
  go_wp2_with (go_at_call 75; (with_reducible refine (q_Peek HQ.out n 0 HM.out).mono ?_); rintro e W1 ⟨v, rfl, hown, hb⟩; obtain ⟨A, c, rfl⟩ := own_slice hown; have HO := Lib.hid hown; have HB := Lib.hid hb; clear hown hb)
  go_ret
  have hc := Ch.of_below HB.out (b :: g.toList)
  refine ⟨_, rfl, HO.out, ⟨g, cs, first, ?_, rfl⟩, hc⟩
  exact HQ.out.frame (Ch.of_below HB.out []) (by simp)

set_option maxRecDepth 100000 in
set_option maxHeartbeats 1000000 in
theorem q_TakeP (h : QIs W b F q) (n : Int) (m : Nat) (hm : m = min n.toNat q.xs.length) (h0 : 0 < m) : Calls Tryz.prog 52 #[.pointer (some ⟨b, 0, none⟩), .int .i64 n] W fun e W' => ∃ v, e = .returned v ∧ W'.ownsRow W.heap.size 5 1 v m (nums .u8 (q.xs.take m)) ∧ QIs W' b F { q with xs := q.xs.drop m } ∧ Ch F W W' := by
  obtain ⟨g, cs, first, h, rfl⟩ := h
  have hlen := h.len; have hmost := h.most; have hbig := h.big; have hfle := h.fle
  obtain ⟨r, hr⟩ : ∃ r, g = some r := by
    cases g with
    | none => have := h.nul rfl; subst this; simp only [List.length_nil] at hlen; omega
    | some r => exact ⟨r, rfl⟩
  subst hr
  have hml : m ≤ q.xs.length := by omega
  obtain ⟨s, hs, hs2⟩ : ∃ s : Nat, IntKind.i64.wrap ((first : Int) + (m : Int)) = (s : Int) ∧ s = first + m := ⟨first + m, by rw [IntKind.wrap_i64]; omega, rfl⟩
  obtain ⟨L, hL⟩ : ∃ L, cs.length = L := ⟨_, rfl⟩
  obtain ⟨p, hp, hp2⟩ : ∃ p : Nat, Int.tmod (s : Int) (L : Int) = (p : Int) ∧ p = (first + m) % cs.length := ⟨(first + m) % cs.length, by rw [Int.tmod_eq_emod_of_nonneg (by omega), hs2, hL]; rfl, rfl⟩
  obtain ⟨d, hd, hd2⟩ : ∃ d : Nat, IntKind.i64.wrap ((q.xs.length : Int) - (m : Int)) = (d : Int) ∧ d = q.xs.length - m := ⟨q.xs.length - m, by rw [IntKind.wrap_i64]; omega, rfl⟩
  have h0L : ¬ (L = 0) := by omega
  have h0d : decide ((0 : Int) < (m : Int)) = true := decide_eq_true (by omega)
  have hs' : wrap64 ((first : Int) + (m : Int)) = (s : Int) := (IntWalk.i64_left _).symm.trans hs
  have hd' : wrap64 ((q.xs.length : Int) - (m : Int)) = (d : Int) := (IntWalk.i64_left _).symm.trans hd
  have HT := Lib.hid (fun (W1 : World) (hq : QAt W1 b (some r) q cs first) => hq.take m hml h0)
  obtain ⟨h0, h1, h2, h3, h4⟩ := h.cells
  rw [hL] at h0
  replace h0 : W.cell? ⟨b, 0, none⟩ = some (.slice (some ⟨r, 0, none⟩) L L) := h0
  have HQ := Lib.hid h
  have HM := Lib.hid hm
  have HP := Lib.hid hp2
  have HD := Lib.hid hd2
  clear h hm hp2 hd2 hlen hmost hbig hfle hml hs2 h3 h4 hL
  go_enter Tryz.func52, Tryz.ntmps52
  go_wp2_with (go_at_call 75; (with_reducible refine (q_Peek HQ.out n m HM.out).mono ?_); rintro e W1 ⟨v, rfl, hown, hb⟩; obtain ⟨A, c, rfl⟩ := own_slice hown; have HO := Lib.hid hown; have HB := Lib.hid hb; have HQ1 := Lib.hid (HQ.out.frame (Ch.of_below HB.out []) (by simp)); have f1 := blk_frozen HQ1.out.blk 1; have f2 := blk_frozen HQ1.out.blk 2; have g0 := pw_cell_below hb h0; have g1 := pw_cell_below hb h1; have g2 := pw_cell_below hb h2; clear hown hb)
  go_still_tail 16, (by kernel_rfl)
  change wpList _ _ _ _ _ W1.drew
  have k1 : W1.drew.frozen? ⟨b, 1, none⟩ = false := f1
  have k2 : W1.drew.frozen? ⟨b, 2, none⟩ = false := f2
  have k3 : W1.drew.cell? ⟨b, 1, none⟩ = some (.int .i64 first) := g1
  have k4 : W1.drew.cell? ⟨b, 2, none⟩ = some (.int .i64 q.xs.length) := g2
  have HQ2 := Lib.hid (HQ1.out.frame ((Ch.refl [] _).drew) (by simp))
  have HO2 := Lib.hid (pw_own_below HO.out (below_drew (Below.refl _ _)))
  have HC2 := Lib.hid ((Ch.of_below HB.out (b :: (some r).toList)).drew)
  clear f1 f2 g0 g1 g2 HQ1 HO HB h0 h1 h2
  generalize W1.drew = W2 at k1 k2 k3 k4 HQ2 HO2 HC2 ⊢
  go_wp2
  go_ret
  have hT := HT.out W2 HQ2.out
  rw [← HP.out, ← HD.out] at hT
  have hb0 := lt_of_heap HQ.out.blk
  have hne : some b ≠ (Value.slice A m c).ownBlock := fun he => absurd (own_base HO2.out b he.symm) (by omega)
  exact ⟨_, rfl, own_setCell (own_setCell HO2.out (by exact hne) _) (by exact hne) _, ⟨some r, cs, p, hT, rfl⟩, (HC2.out.set (by simp) _ _).set (by simp) _ _⟩

theorem q_Take (h : QIs W b F q) (n : Int) (m : Nat) (hm : m = min n.toNat q.xs.length) : Calls Tryz.prog 52 #[.pointer (some ⟨b, 0, none⟩), .int .i64 n] W fun e W' => ∃ v, e = .returned v ∧ W'.ownsRow W.heap.size 5 1 v m (nums .u8 (q.xs.take m)) ∧ QIs W' b F { q with xs := q.xs.drop m } ∧ Ch F W W' := by
  rcases Nat.eq_zero_or_pos m with h0 | h0
  · exact q_Take0 h n m hm h0
  · exact q_TakeP h n m hm h0
end
end Go.Proofs.YtbdknddgfmoipaaGreatDoor.TQ
namespace Go.Proofs.YtbdknddgfmoipaaGreatDoor.TQ
open Go.RowKit Go.Shelf Go.Proofs.YtbdknddgfmoipaaGreatDoorW.PrintWords Go.Proofs.YtbdknddgfmoipaaGreatDoorW.PrintLast Go.Proofs.YtbdknddgfmoipaaGreatDoorW.PrintMore
set_option linter.unusedVariables false
set_option linter.unusedSimpArgs false


section
variable {F F1 : List Nat} {W W1 W2 W' : World} {b : Nat} {g : Option Nat} {q : Qz} {cs : List Value} {first : Nat}
theorem size5 : (Tryz.prog.info? 5).map (·.size) = some 1 := by kernel_rfl

theorem Ch.setRow (W : World) (g : Nat) (cs : Array Value) : Ch [g] W (W.setRow g cs) := ⟨rfl, rfl, rfl, by simp [World.setRow], fun k _ hn => setRow_other W g k cs (by simpa using hn)⟩
theorem copy_ok {base R M L c : Nat} {ty : TypeId} {A : Option Addr} {xs : List Int} (hR : W.heap[R]? = some (.cells (madeCells #[.int .u8 0] M) 5 (0, 0))) (ho : W.ownsRow base 5 1 (.slice A L c) L (nums .u8 xs)) (hl : L ≤ M) :
    ∃ W5, (Builtin.copy_ #[25, 25] ty #[.slice (some ⟨R, 0, none⟩) M M, .slice A L c]).run Tryz.prog W = .ok (goInt L) W5 ∧ W5.heap[R]? = some (.cells ⟨nums .u8 (xs ++ List.replicate (M - L) 0)⟩ 5 (0, 0)) ∧ Ch [R] W W5 := by
  obtain ⟨A', c', he, hr⟩ := own_reads ho
  cases he
  have hxl := hr.1
  have hmade : (madeCells #[Value.int .u8 0] M).toList = nums .u8 (List.replicate M 0) := by
    apply List.ext_getElem
    · simp [nums, madeCells]
    · intro i h1 h2; simp [nums, madeCells, Nat.mod_one]
  by_cases h0 : L = 0
  · subst h0
    have hx : xs = [] := List.length_eq_zero_iff.1 hxl
    subst hx
    refine ⟨W, run_copy_none (P := Tryz.prog) W 25 25 ty 5 (some ⟨R, 0, none⟩) A M M 0 c Tryz.underlying25 size5 (show min 0 M = 0 by omega), ?_, Ch.refl _ _⟩
    rw [hR]
    have : madeCells #[Value.int .u8 0] M = ⟨nums .u8 (List.replicate M 0)⟩ := by rw [← hmade]
    simp [this]
  · obtain ⟨ad, hA, hc⟩ := hr.2.2 (by omega)
    subst hA
    have hlen : (nums .u8 xs).length = L := by rw [nums_length]; exact hxl
    have hrun := run_copy_row (P := Tryz.prog) W 25 25 ty 5 R 0 M M ad L c _ 5 (nums .u8 xs) Tryz.underlying25 size5 hR (by rw [hlen]; show L = min L M; omega) (fun j v hj => by
      have hjl : j < L := by rw [← hlen]; exact (List.getElem?_eq_some_iff.1 hj).1
      rw [hc j hjl]
      simp [nums, List.getElem?_eq_getElem (show j < xs.length by omega)] at hj
      simp [List.getD_eq_getElem?_getD, List.getElem?_eq_getElem (show j < xs.length by omega), hj]) (by rw [hlen, size_madeCells]; omega) (by simp [nums, Value.oneCell'])
    rw [hlen] at hrun
    refine ⟨_, hrun, ?_, Ch.setRow _ _ _⟩
    rw [setRow_heap W R _ _ 5 _ hR]
    have hX : (madeCells #[Value.int .u8 0] M).toList.take 0 ++ nums .u8 xs ++ (madeCells #[Value.int .u8 0] M).toList.drop (0 + L) = nums .u8 (xs ++ List.replicate (M - L) 0) := by
      rw [hmade]; simp [nums, List.drop_replicate]
    rw [hX]

theorem grown_at {R M L : Nat} (h : QAt W1 b g q cs first) (hl : q.xs.length = L) (hlM : L ≤ M) (hM : M ≤ q.most) (hRb : R ≠ b) (h8 : W.heap[b]? = some (.cells (qcells (some R) M first q) 189 (0, 0)))
    (h5 : W.heap[R]? = some (.cells ⟨nums .u8 (q.xs ++ List.replicate (M - L) 0)⟩ 5 (0, 0))) :
    QAt (W.setCell ⟨b, 1, none⟩ (.int .i64 0)) b (some R) q (nums .u8 (q.xs ++ List.replicate (M - L) 0)) 0 := by
  have hlen : (nums .u8 (q.xs ++ List.replicate (M - L) 0)).length = M := by rw [nums_length]; simp; omega
  refine ⟨?_, fun r hr => ?_, by simp, by rw [hlen]; omega, by rw [hlen]; exact hM, h.big, Nat.zero_le _, fun i x hx => ?_⟩
  · rw [blk_set h8 1, hlen]; rfl
  · obtain rfl := Option.some.inj hr
    exact ⟨blk_far h5 hRb _, hRb⟩
  · have hi : i < q.xs.length := (List.getElem?_eq_some_iff.1 hx).1
    rw [hlen, Nat.zero_add, Nat.mod_eq_of_lt (by omega)]
    unfold nums
    rw [List.getElem?_map, List.getElem?_append_left hi, hx]; rfl

set_option maxRecDepth 100000 in
set_option maxHeartbeats 1000000 in
theorem q_growA (h : QAt W b g q cs first) (hlt : q.xs.length < cs.length) : Calls Tryz.prog 74 #[.pointer (some ⟨b, 0, none⟩)] W fun e W' => e = .returned (.tuple #[]) ∧ QAt W' b g q cs first ∧ Ch [] W W' := by
  obtain ⟨h0, h1, h2, h3, h4⟩ := h.cells
  have hfle := h.most; have hbig := h.big
  obtain ⟨L, hL⟩ : ∃ L, cs.length = L := ⟨_, rfl⟩
  obtain ⟨r, rfl⟩ : ∃ r, g = some r := by
    cases g with
    | none => have := h.nul rfl; subst this; simp only [List.length_nil] at hlt; omega
    | some r => exact ⟨r, rfl⟩
  rw [hL] at h0
  have hl1 : decide ((q.xs.length : Int) < (L : Int)) = true := decide_eq_true (by omega)
  have hl2 : q.xs.length < L := by omega
  replace h0 : W.cell? ⟨b, 0, none⟩ = some (.slice (some ⟨r, 0, none⟩) L L) := h0
  have HQ := Lib.hid h
  clear h h1 h3 h4 hfle hbig hL hlt
  go_enter Tryz.func74, Tryz.ntmps74
  go_wp2
  go_quiet (fail)
  go_wp2
  (try simp only [Exit.inBlock, Exit.then])
  refine bodyPost_ret (results_none rfl _ _ _) rfl ?_
  exact ⟨rfl, HQ.out.frame ((Ch.refl [] W).drewN nq) (by simp), (Ch.refl _ _).drewN nq⟩

set_option maxRecDepth 100000 in
set_option maxHeartbeats 1000000 in
theorem q_growB (h : QAt W b g q cs first) (hlt : q.xs.length = cs.length) (hm : q.xs.length < q.most) (M : Nat) (hM : M = min q.most (max 8 (2 * cs.length))) :
    Calls Tryz.prog 74 #[.pointer (some ⟨b, 0, none⟩)] W fun e W' => e = .returned (.tuple #[]) ∧ ∃ r, W.heap.size ≤ r ∧ QAt W' b (some r) q (nums .u8 (q.xs ++ List.replicate (M - q.xs.length) 0)) 0 ∧ Ch [b] W W' := by
  obtain ⟨h0, h1, h2, h3, h4⟩ := h.cells
  have hmo := h.most; have hbig := h.big
  obtain ⟨L, hL⟩ : ∃ L, cs.length = L := ⟨_, rfl⟩
  obtain ⟨A1, hA, h0'⟩ : ∃ A, ringV g L = .slice A L L ∧ W.cell? ⟨b, 0, none⟩ = some (.slice A L L) := by
    rw [h0, ← hL]
    cases g with
    | none => rw [h.nul rfl]; exact ⟨_, rfl, rfl⟩
    | some r => exact ⟨_, rfl, rfl⟩
  have hl1 : decide ((q.xs.length : Int) < (L : Int)) = false := decide_eq_false (by omega)
  have hl2 : q.xs.length = L := by omega
  obtain ⟨D, hD⟩ : ∃ D : Nat, D = 2 * L := ⟨_, rfl⟩
  obtain ⟨X, hX⟩ : ∃ X : Nat, X = max 8 D := ⟨_, rfl⟩
  have hmul : IntKind.i64.wrap (2 * (L : Int)) = (D : Int) := by rw [IntKind.wrap_i64]; omega
  have hmul' : wrap64 (2 * (L : Int)) = (D : Int) := (IntWalk.i64_left _).symm.trans hmul
  have hmax := max_is 8 (D : Int) (X : Int) (by omega)
  have hmin := min_is (q.most : Int) (X : Int) (M : Int) (by omega)
  have hmk := print_make (P := Tryz.prog) 25 5 .u8 1 Tryz.underlying25 info5 (by decide) M (by omega)
  have hdr0 : ∀ v, W.drew.cell? v = W.cell? v := fun v => rfl
  have HQ := Lib.hid h
  rw [hl2] at h2
  have HL := Lib.hid hl2
  have CL := Lib.hid hL
  have HA := Lib.hid hA
  clear hA h h0 h1 h3 h4 hmo hbig hL hlt hl1 hl2 hD hX
  go_enter Tryz.func74, Tryz.ntmps74
  go_wp2
  go_quiet (fail)
  have HQ0 := Lib.hid (HQ.out.frame ((Ch.refl [] W).drewN nq) (by simp))
  go_wp2_with (go_at_call 75; (with_reducible refine (q_Peek HQ0.out _ L (by rw [HL.out]; simp)).mono ?_); rintro e W1 ⟨v, rfl, hown, hb⟩; obtain ⟨A, c, rfl⟩ := own_slice hown; have HO := Lib.hid hown; have HB := Lib.hid hb; have HQ1 := Lib.hid (HQ0.out.frame (Ch.of_below HB.out []) (by simp)); obtain ⟨g0, _, g2, g3, _⟩ := HQ1.out.cells; rw [CL.out, HA.out] at g0; rw [HL.out] at g2; clear hown hb)
  have hbl := lt_of_heap HQ1.out.blk
  have k0 : ∀ o, (W1.alloc o).frozen? ⟨b, 0, none⟩ = false := fun o => blk_frozen ((heap_alloc_old W1 o b hbl).trans HQ1.out.blk) 0
  have k1 : ∀ o, (W1.alloc o).cell? ⟨b, 0, none⟩ = some (.slice A1 L L) := fun o => pw_cell_below (below_alloc (Below.refl _ W1) o) g0
  obtain ⟨z, hz⟩ : ∃ z, z = Obj.cells (madeCells #[Value.int .u8 0] M) 5 := ⟨_, rfl⟩
  obtain ⟨R, hR⟩ : ∃ R, R = W1.heap.size := ⟨_, rfl⟩
  have hmk1 : Sem.run Tryz.prog (Instr.makeSlice 25 (.int .i64 M) (.int .i64 M)) W1.drew = .ok (.slice (some ⟨R, 0, none⟩) M M) (W1.drew.alloc z) := by rw [hz, hR]; exact hmk _
  have HZ := Lib.hid hz
  have HR := Lib.hid hR
  have KB := Lib.hid hbl
  clear hmk hz hR hbl
  have HM := Lib.hid hM
  have Hm := Lib.hid hm
  clear hM hm
  go_region
  have e4 : ((W1.alloc z).setCell ⟨b, 0, none⟩ (.slice (some ⟨R, 0, none⟩) M M)).heap[b]? = some (.cells (qcells (some R) M first q) 189 (0, 0)) := by
    rw [blk_set ((heap_alloc_old W1 z b KB.out).trans HQ1.out.blk) 0]; rfl
  have e5 : ((W1.alloc z).setCell ⟨b, 0, none⟩ (.slice (some ⟨R, 0, none⟩) M M)).heap[R]? = some (.cells (madeCells #[.int .u8 0] M) 5 (0, 0)) := by
    have := KB.out
    rw [Below.heap_setCell _ _ _ _ (by rw [HR.out]; exact Nat.ne_of_gt this), HR.out, heap_alloc_new, HZ.out]
  have e6 : ((W1.alloc z).setCell ⟨b, 0, none⟩ (.slice (some ⟨R, 0, none⟩) M M)).ownsRow (W.drewN nq).heap.size 5 1 (.slice A L c) L (nums .u8 q.xs) := by
    have := HO.out
    rw [List.take_of_length_le (Nat.le_of_eq HL.out)] at this
    refine own_setCell (pw_own_below this (below_alloc (Below.refl _ _) _)) (fun he => absurd (own_base this b he.symm) ?_) _
    have : b < W.heap.size := lt_of_heap HQ.out.blk
    exact Nat.not_le.mpr this
  have e7 : Ch [b] W ((W1.alloc z).setCell ⟨b, 0, none⟩ (.slice (some ⟨R, 0, none⟩) M M)) := (((((Ch.refl [b] W).drewN nq).trans (Ch.of_below HB.out []) (by simp)).alloc z).set (by simp) _ _)
  obtain ⟨W5, hcp, hW5, hC5⟩ := copy_ok (ty := 3) (W := ((W1.alloc z).setCell ⟨b, 0, none⟩ (.slice (some ⟨R, 0, none⟩) M M)).drew) e5 (pw_own_below e6 (below_drew (Below.refl _ _))) (by have := HM.out; have := HL.out; have := CL.out; have := Hm.out; omega)
  have e8 := hC5.heap (o := .cells (qcells (some R) M first q) 189 (0, 0)) (k := b) e4 (by have := KB.out; have := HR.out; simp; omega)
  have f5 := blk_frozen e8 1
  have c5 : W5.cell? ⟨b, 1, none⟩ = some (.int .i64 first) := by simp [World.cell?, e8, qcells]
  have c4 : ((W1.alloc z).setCell ⟨b, 0, none⟩ (.slice (some ⟨R, 0, none⟩) M M)).drew.cell? ⟨b, 0, none⟩ = some (.slice (some ⟨R, 0, none⟩) M M) := by
    have : ((W1.alloc z).setCell ⟨b, 0, none⟩ (.slice (some ⟨R, 0, none⟩) M M)).cell? ⟨b, 0, none⟩ = some (.slice (some ⟨R, 0, none⟩) M M) := by simp [World.cell?, e4, qcells, ringV]
    exact this
  have H7 := Lib.hid ((e7.drew).trans hC5 (F := [b]) (fun k hk => .inr (by simp at hk; subst hk; rw [HR.out]; exact HB.out.size)))
  have H8 := Lib.hid e8
  have H5 := Lib.hid hW5
  clear e4 e5 e6 e7 e8 hC5 hW5 k0 k1 hmk1 g0 g2 g3 hmax hmin hmul' hmul hdr0 h0' h2
  generalize ((W1.alloc z).setCell ⟨b, 0, none⟩ (.slice (some ⟨R, 0, none⟩) M M)).drew = W4 at hcp c4 ⊢
  go_wp2
  go_end0
  have hRb : R ≠ b := by have := KB.out; have := HR.out; omega
  refine ⟨rfl, R, ?_, ?_, H7.out.set (by simp) _ _⟩
  · rw [HR.out]; exact HB.out.size
  · rw [HL.out]
    exact grown_at HQ.out HL.out (by have := HM.out; have := HL.out; have := CL.out; have := Hm.out; omega) (by have := HM.out; omega) hRb H8.out H5.out
end
end Go.Proofs.YtbdknddgfmoipaaGreatDoor.TQ
namespace Go.Proofs.YtbdknddgfmoipaaGreatDoor.TQ
open Go.RowKit Go.Shelf Go.Proofs.YtbdknddgfmoipaaGreatDoorW.PrintWords Go.Proofs.YtbdknddgfmoipaaGreatDoorW.PrintLast Go.Proofs.YtbdknddgfmoipaaGreatDoorW.PrintMore
set_option linter.unusedVariables false
set_option linter.unusedSimpArgs false


section
variable {F F1 : List Nat} {W W1 W2 W' : World} {b : Nat} {g : Option Nat} {q : Qz} {cs : List Value} {first : Nat}

theorem q_grow (h : QAt W b g q cs first) (hm : q.xs.length < q.most) : Calls Tryz.prog 74 #[.pointer (some ⟨b, 0, none⟩)] W fun e W' => e = .returned (.tuple #[]) ∧ ∃ r cs' first', (g = some r ∨ W.heap.size ≤ r) ∧ QAt W' b (some r) q cs' first' ∧ q.xs.length < cs'.length ∧ Ch [b] W W' := by
  by_cases hl : q.xs.length < cs.length
  · refine (q_growA h hl).mono ?_
    rintro e W' ⟨rfl, hq, hc⟩
    obtain ⟨r, rfl⟩ : ∃ r, g = some r := by
      cases g with
      | none => have := h.nul rfl; subst this; simp only [List.length_nil] at hl; omega
      | some r => exact ⟨r, rfl⟩
    exact ⟨rfl, r, cs, first, .inl rfl, hq, hl, hc.mono (by simp)⟩
  · have hl2 : q.xs.length = cs.length := by have := h.len; omega
    refine (q_growB h hl2 hm _ rfl).mono ?_
    rintro e W' ⟨rfl, r, hr, hq, hc⟩
    refine ⟨rfl, r, _, _, .inr hr, hq, ?_, hc⟩
    rw [nums_length]; simp; omega

theorem mod_two {c i L : Nat} (hc : c < L) (hi : i < L) : (c + i) % L = if c + i < L then c + i else c + i - L := by
  split
  · exact Nat.mod_eq_of_lt (by assumption)
  · rw [Nat.mod_eq_sub_mod (by omega), Nat.mod_eq_of_lt (by omega)]
theorem mod_ne {a i n L : Nat} (hi : i < n) (hn : n < L) : (a + i) % L ≠ (a + n) % L := by
  have hc : a % L < L := Nat.mod_lt _ (by omega)
  rw [← Nat.mod_add_mod a L i, ← Nat.mod_add_mod a L n, mod_two hc (by omega), mod_two hc hn]
  split <;> split <;> omega

theorem QAt.push {r p : Nat} {y : Int} (h : QAt W b (some r) q cs first) (hl : q.xs.length < cs.length) (hp : p = (first + q.xs.length) % cs.length) :
    QAt ((W.setCell ⟨r, p, none⟩ (.int .u8 y)).setCell ⟨b, 2, none⟩ (.int .i64 (q.xs.length + 1 : Nat))) b (some r) { q with xs := q.xs ++ [y] } (cs.set p (.int .u8 y)) first := by
  obtain ⟨hr, hrb⟩ := h.ring r rfl
  have hpl : p < cs.length := by rw [hp]; exact Nat.mod_lt _ (by omega)
  refine ⟨?_, fun r' hr' => ?_, by simp, by simp; omega, by simpa using h.most, h.big, by simpa using h.fle, fun i x hx => ?_⟩
  · rw [blk_set (blk_far h.blk (p := ⟨r, p, none⟩) (by exact (Ne.symm hrb)) _) 2]
    simp [qcells]
  · obtain rfl := Option.some.inj hr'
    refine ⟨?_, hrb⟩
    rw [blk_far (blk_set hr p _) (by exact hrb) _]
    simp
  · rw [List.length_set]
    by_cases hi : i < q.xs.length
    · have hx' : q.xs[i]? = some x := by rw [← hx]; exact (List.getElem?_append_left hi).symm
      rw [List.getElem?_set_ne (by rw [hp]; exact (mod_ne hi hl).symm)]
      exact h.val i x hx'
    · have hi2 : i = q.xs.length := by
        have := (List.getElem?_eq_some_iff.1 hx).1
        simp at this; omega
      subst hi2
      have : x = y := by simpa using hx.symm
      subst this
      rw [← hp, List.getElem?_set_self hpl]

theorem push_facts {r : Nat} (h : QAt W b (some r) q cs first) (hl : q.xs.length < cs.length) : ∃ (L p s m : Nat) (v : Value), cs.length = L ∧ p = (first + q.xs.length) % cs.length ∧ m = q.xs.length + 1 ∧ r ≠ b ∧
    W.cell? ⟨b, 0, none⟩ = some (.slice (some ⟨r, 0, none⟩) L L) ∧ W.cell? ⟨b, 1, none⟩ = some (.int .i64 first) ∧ W.cell? ⟨b, 2, none⟩ = some (.int .i64 q.xs.length) ∧ W.cell? ⟨r, p, none⟩ = some v ∧ W.frozen? ⟨r, p, none⟩ = false ∧ W.frozen? ⟨b, 2, none⟩ = false ∧
    IntKind.i64.wrap ((first : Int) + (q.xs.length : Int)) = (s : Int) ∧ Int.tmod (s : Int) (L : Int) = (p : Int) ∧ p < L ∧ wrap64 ((q.xs.length : Int) + 1) = (m : Int) := by
  obtain ⟨hr, hrb⟩ := h.ring r rfl
  have hpl : (first + q.xs.length) % cs.length < cs.length := Nat.mod_lt _ (by omega)
  have h1 := h.most; have h2 := h.big; have h3 := h.fle
  refine ⟨cs.length, _, first + q.xs.length, _, cs[(first + q.xs.length) % cs.length], rfl, rfl, rfl, hrb, h.cells.1, h.cells.2.1, h.cells.2.2.1, ?_, blk_frozen hr _, blk_frozen h.blk _, ?_, ?_, hpl, ?_⟩
  · simp [World.cell?, hr, hpl]
  · rw [IntKind.wrap_i64]; omega
  · rw [Int.tmod_eq_emod_of_nonneg (by omega)]; rfl
  · rw [IntWalk.wrap64_in _ (by omega)]; rfl

set_option maxRecDepth 100000 in
set_option maxHeartbeats 1000000 in
theorem q_Put (h : QIs W b F q) (A : Option Addr) (n c : Nat) (ys : List Int) (hy : ReadsInt W .u8 A n ys) (hnc : n ≤ c) (hA : 0 < n → ∀ ad, A = some ad → ad.block ∉ F) (k : Nat) (hk : k = min n (if q.ended then 0 else q.most - q.xs.length)) :
    Calls Tryz.prog 50 #[.pointer (some ⟨b, 0, none⟩), .slice A n c] W fun e W' => e = .returned (.int .i64 k) ∧ ∃ F1, QIs W' b F1 { q with xs := q.xs ++ ys.take k } ∧ (∀ f ∈ F1, f ∈ F ∨ W.heap.size ≤ f) ∧ Ch F W W' := by
  obtain ⟨N, hN⟩ : ∃ N : Nat, N = if q.ended then 0 else q.most - q.xs.length := ⟨_, rfl⟩
  rw [← hN] at hk
  have hRoom : ∀ w, QIs w b F q → Calls Tryz.prog 73 #[.pointer (some ⟨b, 0, none⟩)] w fun e w' => e = .returned (.int .i64 N) ∧ Ch [] w w' := fun w hq => by
    obtain ⟨g, cs, first, hq, rfl⟩ := hq
    refine (q_Room hq).mono ?_
    rintro e w' ⟨rfl, hb, _⟩
    refine ⟨?_, Ch.of_below hb []⟩
    rw [hN]; cases q.ended <;> rfl
  have hmi := min_is (n : Int) (N : Int) (k : Int) (by omega)
  have hkn : k ≤ n := by omega
  have hkN : k ≤ N := by omega
  have hn63 := hy.2.1
  have HQ := Lib.hid h
  have HY := Lib.hid hy
  have HNC := Lib.hid hnc
  have HKN := Lib.hid hkn
  have HkN := Lib.hid hkN
  have HNN := Lib.hid hN
  have HA := Lib.hid hA
  have hkc : (k : Int) ≤ (c : Int) := by omega
  have hk0 : (0 : Int) ≤ (k : Int) := by omega
  clear h hy hk hN hkn hkN hn63 hA hnc
  go_enter Tryz.func50, Tryz.ntmps50
  go_wp2_with (go_at_call 73; (with_reducible refine (hRoom _ HQ.out).mono ?_); rintro e W1 ⟨rfl, hb⟩; have HB := Lib.hid hb; clear hb)
  go_loopg [7, 17] (k + 1) (fun kq v7 v17 w1 => ∃ j : Nat, v17 = .int .i64 j ∧ Aside0 (j ≤ k ∧ kq = k + 1 - j) ∧ Aside0 (∃ F1, QIs w1 b F1 { q with xs := q.xs ++ ys.take j } ∧ (∀ f ∈ F1, f ∈ F ∨ W.heap.size ≤ f) ∧ Ch F W w1))
  case atStart => exact ⟨0, rfl, ⟨Nat.zero_le _, rfl⟩, ⟨F, by simpa using HQ.out.frame HB.out (by simp), fun f hf => .inl hf, HB.out.mono (by simp)⟩⟩
  case round =>
    obtain ⟨j, rfl, HJ, HL⟩ := hrel
    clear hmi hRoom HB
    by_cases hjk : j < k
    · have hjd : decide ((j : Int) < (k : Int)) = true := decide_eq_true (by omega)
      obtain ⟨F1, hq1, hF1, hc1⟩ := HL.out
      obtain ⟨g, cs, first, hq1, hFe⟩ := hq1
      obtain ⟨ad, hAe, hcA⟩ := HY.out.2.2 (by have := HKN.out; omega)
      have hyj : wr.cell? (ad.add j) = some (.int .u8 (ys.getD j 0)) := hc1.cell (hcA j (by have := HKN.out; omega)) (by have := HA.out (by have := HKN.out; omega) ad hAe; unfold Addr.add; split <;> exact this)
      have hj0 : (0 : Int) ≤ (j : Int) := by omega
      subst hAe
      obtain ⟨y, hye⟩ : ∃ y, y = ys.getD j 0 := ⟨_, rfl⟩
      rw [← hye] at hyj
      have HYE := Lib.hid hye
      have H1 := Lib.hid hq1
      have HF1 := Lib.hid hF1
      have HFE := Lib.hid hFe
      have HC1 := Lib.hid hc1
      obtain ⟨q1, hqe⟩ : ∃ q1, q1 = { q with xs := q.xs ++ ys.take j } := ⟨_, rfl⟩
      rw [← hqe] at H1
      have HQE := Lib.hid hqe
      have HLT := Lib.hid (show q1.xs.length < q1.most by
        have := HkN.out; have hNN := HNN.out; have := HKN.out; have := HY.out.1
        rw [hqe]; simp only [List.length_append, List.length_take]
        cases he : q.ended
        · rw [he] at hNN; simp at hNN; omega
        · rw [he] at hNN; simp at hNN; omega)
      clear hye hq1 hFe hF1 hc1 hcA hqe
      go_wp2_with (go_at_call 74; (with_reducible refine (q_grow H1.out HLT.out).mono ?_); rintro e W2 ⟨rfl, r, cs2, first2, hr2, hq2, hl2, hc2⟩; have HR2 := Lib.hid hr2; have HQ2 := Lib.hid hq2; have HL2 := Lib.hid hl2; have HC2 := Lib.hid hc2; obtain ⟨L, p, s, m, v, hL, hp, hm, hrb, e0, e1, e2, e3, e4, e5, e6, e7, e8, e9⟩ := push_facts hq2 hl2; have HP := Lib.hid hp; have HMM := Lib.hid hm; have h0L : ¬ (L = 0) := (by omega); have h0p : (0 : Int) ≤ (p : Int) := (by omega); have hpl' : (p : Int) < (L : Int) := (by omega); clear hr2 hq2 hl2 hc2 hL hp hm)
      have hpush := HQ2.out.push (y := y) HL2.out HP.out
      rw [← HMM.out] at hpush
      have HPU := Lib.hid hpush
      clear hpush
      go_region_held3 (fun w' => w'.cell? ⟨b, 0, none⟩ = some (.slice (some ⟨r, 0, none⟩) L L) ∧ w'.cell? ⟨b, 1, none⟩ = some (.int .i64 first2) ∧ w'.cell? ⟨b, 2, none⟩ = some (.int .i64 q1.xs.length)) (first | exact ⟨e0, e1, e2⟩ | go_keep) (fail)
      have e10 : (W2.setCell ⟨r, p, none⟩ (.int .u8 y)).cell? ⟨b, 2, none⟩ = some (.int .i64 q1.xs.length) := by
        have := blk_far HQ2.out.blk (p := ⟨r, p, none⟩) (by exact (Ne.symm hrb)) (.int .u8 y)
        simp [World.cell?, this, qcells]
      have e11 : (W2.setCell ⟨r, p, none⟩ (.int .u8 y)).frozen? ⟨b, 2, none⟩ = false := blk_frozen (blk_far HQ2.out.blk (p := ⟨r, p, none⟩) (by exact (Ne.symm hrb)) (.int .u8 y)) 2
      clear e0 e1 e2 e3 e4 e5 e6 e7
      go_wp2
      go_roundg (k - j)
      case measure => have := HJ.out; omega
      case rel =>
        have hbF : b ∈ F := HQ.out.mem
        have hrF : r ∈ F ∨ W.heap.size ≤ r := by
          rcases HR2.out with h | h
          · exact HF1.out r (by rw [HFE.out, h]; simp)
          · exact .inr (Nat.le_trans HC1.out.size h)
        refine ⟨j + 1, congrArg _ (by have := HKN.out; have := HY.out.2.1; rw [IntWalk.wrap64_in _ (by omega)]; rfl), ⟨by omega, by have := HJ.out; omega⟩, ⟨[b, r], ⟨some r, cs2.set p (.int .u8 y), first2, ?_, rfl⟩, ?_, ?_⟩⟩
        · have hq := HPU.out.frame ((Ch.refl [] _).drew) (by simp)
          have he : ({ xs := q1.xs ++ [y], most := q1.most, ended := q1.ended } : Qz) = { q with xs := q.xs ++ ys.take (j + 1) } := by
            have hj1 : j < ys.length := by have := HKN.out; have := HY.out.1; omega
            rw [HQE.out, HYE.out, List.take_add_one, List.getElem?_eq_getElem hj1, List.getD_eq_getElem?_getD, List.getElem?_eq_getElem hj1]
            simp
          rw [he] at hq
          exact hq
        · intro f hf
          rcases List.mem_cons.mp hf with rfl | hf
          · exact .inl hbF
          · simp at hf; subst hf; exact hrF
        · exact (((HC1.out.trans HC2.out (fun x hx => .inl (by simp at hx; subst hx; exact hbF))).set hrF _ _).set (.inl hbF) _ _).drew
    · have hjd : decide ((j : Int) < (k : Int)) = false := decide_eq_false (by omega)
      go_wp2
      go_ret
      obtain rfl : j = k := by have := HJ.out; omega
      exact ⟨rfl, HL.out⟩
end
end Go.Proofs.YtbdknddgfmoipaaGreatDoor.TQ
namespace Go.Proofs.YtbdknddgfmoipaaGreatDoor.TQ
open Go.RowKit Go.Shelf Go.Proofs.YtbdknddgfmoipaaGreatDoorW.PrintWords Go.Proofs.YtbdknddgfmoipaaGreatDoorW.PrintLast Go.Proofs.YtbdknddgfmoipaaGreatDoorW.PrintMore
set_option linter.unusedVariables false
set_option linter.unusedSimpArgs false


section
variable {F F1 : List Nat} {W W1 W2 W' : World}

/-- a line: by sides, what is on its way to it -/
structure Pz where
  way : Nat → Qz
/-- .. in memory: in block pb; the queues in their blocks F s -/
structure PIs (W : World) (pb : Nat) (F : Nat → List Nat) (p : Pz) (b : Nat → Nat) : Prop where
  blk : W.heap[pb]? = some (.cells #[.pointer (some ⟨b 0, 0, none⟩), .pointer (some ⟨b 1, 0, none⟩)] 124 (0, 0))
  q : ∀ s, s < 2 → QIs W (b s) (F s) (p.way s)
  out : ∀ s, s < 2 → pb ∉ F s
  apart : ∀ k ∈ F 0, k ∉ F 1
def Pz.set (p : Pz) (s : Nat) (q : Qz) : Pz := ⟨fun t => if t = s then q else p.way t⟩
def setF (F : Nat → List Nat) (s : Nat) (G : List Nat) : Nat → List Nat := fun t => if t = s then G else F t
/-- pty.other -/
def Oth (W : World) : Prop := W.cell? ⟨1, 0, none⟩ = some (.int .i64 1) ∧ W.cell? ⟨1, 1, none⟩ = some (.int .i64 0)

variable {pb : Nat} {FF : Nat → List Nat} {p : Pz} {b : Nat → Nat}
set_option maxRecDepth 100000 in
theorem p_way (h : PIs W pb FF p b) (s : Nat) (hs : s < 2) (sd : Int) (he : sd = s) : Calls Tryz.prog 51 #[.pointer (some ⟨pb, 0, none⟩), .int .i64 sd] W fun e W' => e = .returned (.pointer (some ⟨b s, 0, none⟩)) ∧ W' = W := by
  have c0 : W.cell? ⟨pb, 0, none⟩ = some (.pointer (some ⟨b 0, 0, none⟩)) := by simp [World.cell?, h.blk]
  have c1 : W.cell? ⟨pb, 1, none⟩ = some (.pointer (some ⟨b 1, 0, none⟩)) := by simp [World.cell?, h.blk]
  clear h
  subst he
  obtain rfl | rfl : s = 0 ∨ s = 1 := by omega
  · go_enter Tryz.func51, Tryz.ntmps51
    go_wp2
    go_ret
    exact ⟨rfl, rfl⟩
  · go_enter Tryz.func51, Tryz.ntmps51
    go_wp2
    go_ret
    exact ⟨rfl, rfl⟩

set_option maxRecDepth 100000 in
theorem p_from (h : PIs W pb FF p b) (ho : Oth W) (s : Nat) (hs : s < 2) (sd : Int) (he : sd = s) : Calls Tryz.prog 49 #[.pointer (some ⟨pb, 0, none⟩), .int .i64 sd] W fun e W' => e = .returned (.pointer (some ⟨b (1 - s), 0, none⟩)) ∧ W' = W := by
  obtain ⟨o0, o1⟩ := ho
  have HP := Lib.hid h
  clear h
  subst he
  obtain rfl | rfl : s = 0 ∨ s = 1 := by omega
  · go_enter Tryz.func49, Tryz.ntmps49
    go_wp2_with (go_at_call 51; (with_reducible refine (p_way HP.out 1 (by decide) 1 rfl).mono ?_); rintro e W1 ⟨rfl, rfl⟩)
    go_ret
    exact ⟨rfl, rfl⟩
  · go_enter Tryz.func49, Tryz.ntmps49
    go_wp2_with (go_at_call 51; (with_reducible refine (p_way HP.out 0 (by decide) 0 rfl).mono ?_); rintro e W1 ⟨rfl, rfl⟩)
    go_ret
    exact ⟨rfl, rfl⟩

theorem PIs.frame (h : PIs W pb FF p b) (hc : Ch F1 W W1) (h0 : pb ∉ F1) (h1 : ∀ s, s < 2 → ∀ k ∈ FF s, k ∉ F1) : PIs W1 pb FF p b :=
  ⟨hc.heap h.blk h0, fun s hs => (h.q s hs).frame hc (h1 s hs), h.out, h.apart⟩
/-- one way turns -/
theorem PIs.turn (h : PIs W pb FF p b) (s : Nat) (hs : s < 2) {G : List Nat} {q : Qz} (hq : QIs W1 (b s) G q) (hG : ∀ f ∈ G, f ∈ FF s ∨ W.heap.size ≤ f) (hc : Ch (FF s) W W1) : PIs W1 pb (setF FF s G) (p.set s q) b := by
  have hpb := lt_of_heap h.blk
  refine ⟨hc.heap h.blk (h.out s hs), fun t ht => ?_, fun t ht => ?_, fun k hk => ?_⟩
  · by_cases hts : t = s
    · subst hts; simpa [setF, Pz.set] using hq
    · simp only [setF, Pz.set, hts, if_false]
      refine (h.q t ht).frame hc (fun k hk => ?_)
      obtain rfl | rfl : s = 0 ∨ s = 1 := by omega
      · obtain rfl : t = 1 := by omega
        exact fun h2 => h.apart k h2 hk
      · obtain rfl : t = 0 := by omega
        exact h.apart k hk
  · by_cases hts : t = s
    · subst hts
      simp only [setF, if_true]
      intro h2
      rcases hG pb h2 with h3 | h3
      · exact h.out t ht h3
      · omega
    · simp only [setF, hts, if_false]; exact h.out t ht
  · obtain rfl | rfl : s = 0 ∨ s = 1 := by omega
    · simp only [setF, if_true] at hk
      simp only [setF, show ¬ (1 = 0) by decide, if_false]
      rcases hG k hk with h3 | h3
      · exact h.apart k h3
      · intro h2; have := (h.q 1 (by decide)).lt k h2; omega
    · simp only [setF, show ¬ (0 = 1) by decide, if_false] at hk
      simp only [setF, if_true]
      intro h2
      rcases hG k h2 with h3 | h3
      · exact h.apart k hk h3
      · have := (h.q 0 (by decide)).lt k hk; omega

def Qz.room (q : Qz) : Nat := if q.ended then 0 else q.most - q.xs.length
def Qz.put (q : Qz) (ys : List Int) : Qz := { q with xs := q.xs ++ ys.take (min ys.length q.room) }
def Qz.take (q : Qz) (n : Int) : List Int := q.xs.take (min n.toNat q.xs.length)
def Qz.drop (q : Qz) (n : Int) : Qz := { q with xs := q.xs.drop (min n.toNat q.xs.length) }
def Qz.end_ (q : Qz) : Qz := { q with ended := true }
def Qz.over (q : Qz) : Bool := q.ended && q.xs.isEmpty

set_option maxRecDepth 100000 in
theorem p_Write (h : PIs W pb FF p b) (ho : Oth W) (s : Nat) (hs : s < 2) (A : Option Addr) (n c : Nat) (ys : List Int) (hy : ReadsInt W .u8 A n ys) (hnc : n ≤ c) (hA : 0 < n → ∀ ad, A = some ad → ad.block ∉ FF (1 - s)) :
    Calls Tryz.prog 27 #[.pointer (some ⟨pb, 0, none⟩), .int .i64 s, .slice A n c] W fun e W' => e = .returned (.int .i64 (min n (p.way (1 - s)).room : Nat)) ∧ ∃ F1, PIs W' pb (setF FF (1 - s) F1) (p.set (1 - s) ((p.way (1 - s)).put ys)) b ∧ (∀ f ∈ F1, f ∈ FF (1 - s) ∨ W.heap.size ≤ f) ∧ Ch (FF (1 - s)) W W' := by
  have hs1 : 1 - s < 2 := by omega
  have HP := Lib.hid h
  have HO := Lib.hid ho
  have HY := Lib.hid hy
  have HA := Lib.hid hA
  have HN := Lib.hid hnc
  clear h ho hy hA hnc
  go_enter Tryz.func27, Tryz.ntmps27
  go_wp2_with (first | (go_at_call 49; (with_reducible refine (p_from HP.out HO.out s hs s rfl).mono ?_); rintro e W1 ⟨rfl, rfl⟩) | (go_at_call 50; (with_reducible refine (q_Put (HP.out.q (1 - s) hs1) A n c ys HY.out HN.out HA.out (min n (p.way (1 - s)).room) rfl).mono ?_); rintro e W2 ⟨rfl, F1, hq, hF, hc⟩; have HQ := Lib.hid hq; have HF := Lib.hid hF; have HC := Lib.hid hc; clear hq hF hc))
  go_ret
  have he : min n (p.way (1 - s)).room = min ys.length (p.way (1 - s)).room := by rw [HY.out.1]
  have hQ := HQ.out
  rw [he] at hQ
  exact ⟨rfl, F1, HP.out.turn (1 - s) hs1 hQ HF.out HC.out, HF.out, HC.out⟩

set_option maxRecDepth 100000 in
theorem p_Read (h : PIs W pb FF p b) (s : Nat) (hs : s < 2) (n : Int) :
    Calls Tryz.prog 28 #[.pointer (some ⟨pb, 0, none⟩), .int .i64 s, .int .i64 n] W fun e W' => ∃ v, e = .returned v ∧ W'.ownsRow W.heap.size 5 1 v ((p.way s).take n).length (nums .u8 ((p.way s).take n)) ∧ PIs W' pb FF (p.set s ((p.way s).drop n)) b ∧ Ch (FF s) W W' := by
  have HP := Lib.hid h
  clear h
  go_enter Tryz.func28, Tryz.ntmps28
  go_wp2_with (first | (go_at_call 51; (with_reducible refine (p_way HP.out s hs s rfl).mono ?_); rintro e W1 ⟨rfl, rfl⟩) | (go_at_call 52; (with_reducible refine (q_Take (HP.out.q s hs) n _ rfl).mono ?_); rintro e W2 ⟨v, rfl, hown, hq, hc⟩; have HQ := Lib.hid hq; have HW := Lib.hid hown; have HC := Lib.hid hc; clear hq hown hc))
  go_ret
  have ht := HP.out.turn s hs HQ.out (fun f hf => .inl hf) HC.out
  have hF : setF FF s (FF s) = FF := by funext t; simp only [setF]; split <;> simp_all
  rw [hF] at ht
  refine ⟨_, rfl, ?_, ht, HC.out⟩
  have : ((p.way s).take n).length = min n.toNat (p.way s).xs.length := by simp [Qz.take]
  rw [this]
  exact HW.out

set_option maxRecDepth 100000 in
theorem p_Hang (h : PIs W pb FF p b) (ho : Oth W) (s : Nat) (hs : s < 2) :
    Calls Tryz.prog 29 #[.pointer (some ⟨pb, 0, none⟩), .int .i64 s] W fun e W' => e = .returned (.tuple #[]) ∧ PIs W' pb FF (p.set (1 - s) (p.way (1 - s)).end_) b ∧ Ch (FF (1 - s)) W W' := by
  have hs1 : 1 - s < 2 := by omega
  have HP := Lib.hid h
  have HO := Lib.hid ho
  clear h ho
  go_enter Tryz.func29, Tryz.ntmps29
  go_wp2_with (first | (go_at_call 49; (with_reducible refine (p_from HP.out HO.out s hs s rfl).mono ?_); rintro e W1 ⟨rfl, rfl⟩) | (go_at_call 53; (with_reducible refine (q_End (HP.out.q (1 - s) hs1)).mono ?_); rintro e W2 ⟨rfl, hq, hc⟩; have HQ := Lib.hid hq; have HC := Lib.hid hc; clear hq hc))
  go_end0
  have ht := HP.out.turn (1 - s) hs1 HQ.out (fun f hf => .inl hf) HC.out
  have hF : setF FF (1 - s) (FF (1 - s)) = FF := by funext t; simp only [setF]; split <;> simp_all
  rw [hF] at ht
  exact ⟨rfl, ht, HC.out⟩

set_option maxRecDepth 100000 in
theorem p_Over (h : PIs W pb FF p b) (s : Nat) (hs : s < 2) :
    Calls Tryz.prog 72 #[.pointer (some ⟨pb, 0, none⟩), .int .i64 s] W fun e W' => e = .returned (.bool (p.way s).over) ∧ W' = W := by
  obtain ⟨g, cs, first, hq, _⟩ := h.q s hs
  have HP := Lib.hid h
  have HQ := Lib.hid hq
  clear h hq
  go_enter Tryz.func72, Tryz.ntmps72
  go_wp2_with (first | (go_at_call 51; (with_reducible refine (p_way HP.out s hs s rfl).mono ?_); rintro e W1 ⟨rfl, rfl⟩) | (go_at_call 95; (with_reducible refine (q_Over HQ.out).mono ?_); rintro e W2 ⟨rfl, rfl⟩))
  go_ret
  exact ⟨rfl, rfl⟩
end
end Go.Proofs.YtbdknddgfmoipaaGreatDoor.TQ
namespace Go.Proofs.YtbdknddgfmoipaaGreatDoor.TQ
open Go.RowKit Go.Shelf Go.Proofs.YtbdknddgfmoipaaGreatDoorW.PrintWords Go.Proofs.YtbdknddgfmoipaaGreatDoorW.PrintLast Go.Proofs.YtbdknddgfmoipaaGreatDoorW.PrintMore
set_option linter.unusedVariables false
set_option linter.unusedSimpArgs false


section
variable {F F1 : List Nat} {W W1 W2 W' : World}
/-- j ways of a new line at pb are made -/
def Made (W0 : World) (pb m j : Nat) (w : World) : Prop :=
  ∃ (v0 v1 : Value) (b : Nat → Nat), w.heap[pb]? = some (.cells #[v0, v1] 124 (0, 0)) ∧ (0 < j → v0 = .pointer (some ⟨b 0, 0, none⟩) ∧ QIs w (b 0) [b 0] ⟨[], m, false⟩ ∧ pb < b 0) ∧
    (1 < j → v1 = .pointer (some ⟨b 1, 0, none⟩) ∧ QIs w (b 1) [b 1] ⟨[], m, false⟩ ∧ pb < b 1 ∧ b 0 ≠ b 1) ∧ Below W0.heap.size W0 w ∧ W0.heap.size ≤ pb

theorem Made.cell {W0 w : World} {pb m j : Nat} (h : Made W0 pb m j w) (hj : j < 2) : (∃ v, w.cell? ⟨pb, j, none⟩ = some v) ∧ w.frozen? ⟨pb, j, none⟩ = false := by
  obtain ⟨v0, v1, b, hb, _⟩ := h
  refine ⟨?_, blk_frozen hb j⟩
  obtain rfl | rfl : j = 0 ∨ j = 1 := by omega
  · exact ⟨v0, by simp [World.cell?, hb]⟩
  · exact ⟨v1, by simp [World.cell?, hb]⟩
theorem Made.below {W0 w w1 : World} {pb m j : Nat} (h : Made W0 pb m j w) (hb : Below w.heap.size w w1) : Made W0 pb m j w1 := by
  obtain ⟨v0, v1, b, hblk, h0, h1, h2, h3⟩ := h
  have hc := Ch.of_below hb []
  exact ⟨v0, v1, b, hc.heap hblk (by simp), fun hj => ⟨(h0 hj).1, (h0 hj).2.1.frame hc (by simp), (h0 hj).2.2⟩, fun hj => ⟨(h1 hj).1, (h1 hj).2.1.frame hc (by simp), (h1 hj).2.2⟩, h2.trans (hb.mono (h2.size)), h3⟩
theorem Made.put {W0 w : World} {pb m j bn : Nat} (h : Made W0 pb m j w) (hj : j < 2) (hq : QIs w bn [bn] ⟨[], m, false⟩) (hn : pb < bn) (hnew : 0 < j → ∀ b0, QIs w b0 [b0] ⟨[], m, false⟩ → w.cell? ⟨pb, 0, none⟩ = some (.pointer (some ⟨b0, 0, none⟩)) → b0 ≠ bn) : Made W0 pb m (j + 1) (w.setCell ⟨pb, j, none⟩ (.pointer (some ⟨bn, 0, none⟩))) := by
  obtain ⟨v0, v1, b, hblk, h0, h1, h2, h3⟩ := h
  have hc : Ch [pb] w (w.setCell ⟨pb, j, none⟩ (.pointer (some ⟨bn, 0, none⟩))) := (Ch.refl _ _).set (by simp) _ _
  have hq' := hq.frame hc (by simp; omega)
  have hB : Below W0.heap.size W0 (w.setCell ⟨pb, j, none⟩ (.pointer (some ⟨bn, 0, none⟩))) := h2.trans (hc.below h2.size (by simpa using h3))
  obtain rfl | rfl : j = 0 ∨ j = 1 := by omega
  · refine ⟨.pointer (some ⟨bn, 0, none⟩), v1, fun _ => bn, ?_, fun _ => ⟨rfl, hq', hn⟩, by simp, hB, h3⟩
    rw [blk_set hblk 0]; rfl
  · obtain ⟨e0, q0, l0⟩ := h0 (by decide)
    subst e0
    refine ⟨_, .pointer (some ⟨bn, 0, none⟩), fun t => if t = 0 then b 0 else bn, ?_, fun _ => ⟨rfl, q0.frame hc (by simp; omega), l0⟩, fun _ => ⟨rfl, hq', hn, ?_⟩, hB, h3⟩
    · rw [blk_set hblk 1]; rfl
    · exact hnew (by decide) _ q0 (by simp [World.cell?, hblk])

theorem Made.fresh {W0 w w1 : World} {pb m j bn : Nat} (h : Made W0 pb m j w) (hb : Below w.heap.size w w1) (hn : w.heap.size ≤ bn) : 0 < j → ∀ b0, QIs w1 b0 [b0] ⟨[], m, false⟩ → w1.cell? ⟨pb, 0, none⟩ = some (.pointer (some ⟨b0, 0, none⟩)) → b0 ≠ bn := by
  intro hj b0 _ hc
  obtain ⟨v0, v1, b, hblk, h0, _⟩ := h
  obtain ⟨e0, q0, l0⟩ := h0 hj
  have := (Ch.of_below hb []).heap hblk (by simp)
  subst e0
  simp [World.cell?, this] at hc
  have := q0.lt (b 0) (by simp)
  omega
theorem Made.whole {W0 w : World} {pb m : Nat} (h : Made W0 pb m 2 w) : ∃ b FF, PIs w pb FF ⟨fun _ => ⟨[], m, false⟩⟩ b ∧ (∀ s, s < 2 → ∀ f ∈ FF s, W0.heap.size ≤ f) ∧ W0.heap.size ≤ pb ∧ Below W0.heap.size W0 w := by
  obtain ⟨v0, v1, b, hblk, h0, h1, h2, h3⟩ := h
  obtain ⟨e0, q0, l0⟩ := h0 (by decide)
  obtain ⟨e1, q1, l1, n1⟩ := h1 (by decide)
  subst e0 e1
  refine ⟨b, fun s => [b s], ⟨hblk, fun s hs => ?_, fun s hs => ?_, ?_⟩, fun s hs f hf => ?_, h3, h2⟩
  · obtain rfl | rfl : s = 0 ∨ s = 1 := by omega
    · exact q0
    · exact q1
  · obtain rfl | rfl : s = 0 ∨ s = 1 := by omega
    · simp; omega
    · simp; omega
  · simpa using n1
  · simp at hf; subst hf
    obtain rfl | rfl : s = 0 ∨ s = 1 := by omega
    · omega
    · omega

set_option maxRecDepth 100000 in
set_option maxHeartbeats 1000000 in
theorem p_New (m : Nat) (h1 : 1 ≤ m) (h2 : m ≤ 65536) : Calls Tryz.prog 24 #[.int .i64 m] W fun e W' => ∃ pb b FF, e = .returned (.tuple #[.pointer (some ⟨pb, 0, none⟩), .int .i64 0]) ∧ PIs W' pb FF ⟨fun _ => ⟨[], m, false⟩⟩ b ∧ (∀ s, s < 2 → ∀ f ∈ FF s, W.heap.size ≤ f) ∧ W.heap.size ≤ pb ∧ Below W.heap.size W W' := by
  have H1 := Lib.hid h1
  have H2 := Lib.hid h2
  clear h1 h2
  go_enter Tryz.func24, Tryz.ntmps24
  go_wp2
  go_loopg [5, 6, 7, 8, 11] 3 (fun kq v5 v6 v7 v8 v11 w1 => ∃ j : Nat, v8 = .int .i64 j ∧ Aside0 (j ≤ 2 ∧ kq = 3 - j) ∧ Aside0 (Made W W.heap.size m j w1))
  case atStart => exact ⟨0, rfl, ⟨by decide, rfl⟩, ⟨_, _, fun _ => 0, World.alloc_heap_new W _, by simp, by simp, below_alloc (Below.refl _ _) _, Nat.le_refl _⟩⟩
  case round =>
    obtain ⟨j, rfl, HJ, HM⟩ := hrel
    by_cases hj : j < 2
    · have hjd : decide ((j : Int) < 2) = true := decide_eq_true (by omega)
      go_wp2_with (go_at_call 45; (with_reducible refine (q_New m H1.out H2.out).mono ?_); rintro e W1 ⟨bn, rfl, hq, hsz, hb⟩; have HQ := Lib.hid hq; have HS := Lib.hid hsz; have HB := Lib.hid hb; have HM1 := Lib.hid (HM.out.below hb); obtain ⟨⟨v, hcv⟩, hfv⟩ := HM1.out.cell hj; clear hq hsz hb)
      go_roundg (2 - j)
      case measure => have := HJ.out; omega
      case rel => exact ⟨j + 1, rfl, ⟨by omega, by have := HJ.out; omega⟩, ⟨HM1.out.put hj HQ.out (by obtain ⟨_, _, _, hblk, _⟩ := HM.out; have := lt_of_heap hblk; have := HS.out; omega) (HM.out.fresh HB.out HS.out)⟩⟩
    · have hjd : decide ((j : Int) < 2) = false := decide_eq_false (by omega)
      go_wp2
      go_ret2
      obtain rfl : j = 2 := by have := HJ.out; omega
      obtain ⟨b, FF, h⟩ := HM.out.whole
      exact ⟨_, b, FF, rfl, h⟩
end
end Go.Proofs.YtbdknddgfmoipaaGreatDoor.TQ
namespace Go.Proofs.YtbdknddgfmoipaaGreatDoor.TQ
open Go.RowKit Go.Shelf Go.Proofs.YtbdknddgfmoipaaGreatDoorW.PrintWords Go.Proofs.YtbdknddgfmoipaaGreatDoorW.PrintLast Go.Proofs.YtbdknddgfmoipaaGreatDoorW.PrintMore
set_option linter.unusedVariables false
set_option linter.unusedSimpArgs false


section
variable {F F1 : List Nat} {W W1 W2 W' : World}
/-- a clock: the time seen, whether there was one -/
structure Cz where
  t : Int
  ok : Bool
def Cz.see (c : Cz) (t : Int) : Cz := if c.ok = false ∧ c.t = 0 then ⟨t, true⟩ else if c.t < t then ⟨t, true⟩ else c
def CIs (W : World) (b : Nat) (c : Cz) : Prop := W.heap[b]? = some (.cells #[.int .i64 c.t, .bool c.ok] 193 (0, 0))
theorem CIs.frame {b : Nat} {c : Cz} (h : CIs W b c) (hc : Ch F W W1) (hb : b ∉ F) : CIs W1 b c := hc.heap h hb

set_option maxRecDepth 100000 in
theorem c_New : Calls Tryz.prog 46 #[] W fun e W' => ∃ b, e = .returned (.pointer (some ⟨b, 0, none⟩)) ∧ CIs W' b ⟨0, false⟩ ∧ W.heap.size ≤ b ∧ Below W.heap.size W W' := by
  go_enter Tryz.func46, Tryz.ntmps46
  go_wp2
  go_ret
  exact ⟨_, rfl, World.alloc_heap_new W _, Nat.le_refl _, below_alloc (Below.refl _ _) _⟩

set_option maxRecDepth 100000 in
theorem c_See {b : Nat} {c : Cz} (h : CIs W b c) (t : Int) : Calls Tryz.prog 71 #[.pointer (some ⟨b, 0, none⟩), .int .i64 t] W fun e W' => e = .returned (.int .i64 (c.see t).t) ∧ CIs W' b (c.see t) ∧ Ch [b] W W' := by
  have c0 : W.cell? ⟨b, 0, none⟩ = some (.int .i64 c.t) := by simp [World.cell?, show W.heap[b]? = _ from h]
  have c1 : W.cell? ⟨b, 1, none⟩ = some (.bool c.ok) := by simp [World.cell?, show W.heap[b]? = _ from h]
  have f0 := blk_frozen h 0
  have f1 := blk_frozen h 1
  have HH := Lib.hid h
  have HT := Lib.hid (show CIs ((W.setCell ⟨b, 0, none⟩ (.int .i64 t)).setCell ⟨b, 1, none⟩ (.bool true)) b ⟨t, true⟩ by unfold CIs; rw [blk_set (blk_set h 0 _) 1]; rfl)
  clear h
  go_enter Tryz.func71, Tryz.ntmps71
  go_wp2
  all_goals go_ret
  all_goals first
    | (have he : c.see t = ⟨t, true⟩ := by
        unfold Cz.see
        (repeat' split) <;> first | rfl | (exfalso; simp_all; done) | (exfalso; simp_all; omega)
       rw [he]
       exact ⟨rfl, HT.out, ((Ch.refl _ _).set (by simp) _ _).set (by simp) _ _⟩)
    | (have he : c.see t = c := by
        unfold Cz.see
        (repeat' split) <;> first | rfl | (exfalso; simp_all; done) | (exfalso; simp_all; omega)
       rw [he]
       exact ⟨by first | rfl | (rw [show c.t = 0 by assumption]; rfl), HH.out, Ch.refl _ _⟩)
end
end Go.Proofs.YtbdknddgfmoipaaGreatDoor.TQ
namespace Go.Proofs.YtbdknddgfmoipaaGreatDoor.TQ
open Go.RowKit Go.Shelf Go.Proofs.YtbdknddgfmoipaaGreatDoorW.PrintWords Go.Proofs.YtbdknddgfmoipaaGreatDoorW.PrintLast Go.Proofs.YtbdknddgfmoipaaGreatDoorW.PrintMore
set_option linter.unusedVariables false
set_option linter.unusedSimpArgs false


section
variable {F F1 : List Nat} {W W1 W2 W' : World}
/-- a relay: what waits, whether an end was seen (by directions, 0 out, 1 in), the clock, the events, how many bytes more -/
structure Rz where
  wait : Nat → List Int
  over : Nat → Bool
  clk : Cz
  ev : List QA.S42
  left : Nat
/-- both lines (0 the user's, 1 the child's) and the relay -/
structure Sz where
  line : Nat → Pz
  r : Rz
structure Wv where
  A : Option Addr
  c : Nat
def rcells (pu pc cb : Nat) (w0 w1 : Wv) (ve : Value) (r : Rz) : Array Value :=
  #[.pointer (some ⟨pc, 0, none⟩), .pointer (some ⟨pu, 0, none⟩), .int .i64 0, .int .i64 1, .slice w0.A (r.wait 0).length w0.c, .bool (r.over 0),
    .pointer (some ⟨pu, 0, none⟩), .pointer (some ⟨pc, 0, none⟩), .int .i64 1, .int .i64 0, .slice w1.A (r.wait 1).length w1.c, .bool (r.over 1),
    .pointer (some ⟨cb, 0, none⟩), ve, .int .i64 r.left]
def r0 : Rz := ⟨fun _ => [], fun _ => false, ⟨0, false⟩, [], 262144⟩

theorem size124 : (Tryz.prog.info? 124).map (·.size) = some 2 := by kernel_rfl
theorem ptr_ne {pu pc : Nat} {ca cb : Array Value} (hne : pu ≠ pc) (hu : W.heap[pu]? = some (.cells ca 124 (0, 0))) (hc : W.heap[pc]? = some (.cells cb 124 (0, 0))) : (binOp .eql 44 (.pointer (some ⟨pu, 0, none⟩)) (.pointer (some ⟨pc, 0, none⟩))).run Tryz.prog W = .ok (.bool false) W := by
  obtain ⟨j, hj, hs⟩ := Option.map_eq_some_iff.1 size124
  exact run_eql_ptr_other (a := ⟨pu, 0, none⟩) (b := ⟨pc, 0, none⟩) W Tryz.underlying44 hj (by rw [hs]; decide) (fun h => hne (congrArg Addr.block h)) hu hc
set_option maxRecDepth 100000 in
set_option maxHeartbeats 1000000 in
theorem r_New {pu pc : Nat} {ca cb : Array Value} (hne : pu ≠ pc) (hu : W.heap[pu]? = some (.cells ca 124 (0, 0))) (hc : W.heap[pc]? = some (.cells cb 124 (0, 0))) : Calls Tryz.prog 25 #[.pointer (some ⟨pu, 0, none⟩), .pointer (some ⟨pc, 0, none⟩)] W fun e W' => ∃ rb cb, e = .returned (.tuple #[.pointer (some ⟨rb, 0, none⟩), .int .i64 0]) ∧
    W'.heap[rb]? = some (.cells (rcells pu pc cb ⟨none, 0⟩ ⟨none, 0⟩ (.slice none 0 0) r0) 133 (0, 0)) ∧ CIs W' cb ⟨0, false⟩ ∧ W.heap.size ≤ cb ∧ cb < rb ∧ Below W.heap.size W W' := by
  have hn := ptr_ne hne hu hc
  clear hne hu hc
  go_enter Tryz.func25, Tryz.ntmps25
  go_wp2_with (go_at_call 46; (with_reducible refine c_New.mono ?_); rintro e W1 ⟨cb, rfl, hc, hs, hb⟩; have HC := Lib.hid hc; have HS := Lib.hid hs; have HB := Lib.hid hb; clear hc hs hb)
  go_ret2
  have hlt : cb < W1.heap.size := lt_of_heap HC.out
  exact ⟨W1.heap.size, cb, rfl, World.alloc_heap_new W1 _, HC.out.frame (Ch.of_below (below_alloc (Below.refl _ W1) _) []) (by simp), HS.out, hlt, below_then HB.out HB.out.size (below_alloc (Below.refl _ W1) _)⟩
end
end Go.Proofs.YtbdknddgfmoipaaGreatDoor.TQ
namespace Go.Proofs.YtbdknddgfmoipaaGreatDoor.TQ
open Go.RowKit Go.Shelf Go.Proofs.YtbdknddgfmoipaaGreatDoorW.PrintWords Go.Proofs.YtbdknddgfmoipaaGreatDoorW.PrintLast Go.Proofs.YtbdknddgfmoipaaGreatDoorW.PrintMore
set_option linter.unusedVariables false
set_option linter.unusedSimpArgs false

section
variable {F F1 : List Nat} {W W1 W2 W' : World}
def upd {α : Type} (f : Nat → α) (i : Nat) (v : α) : Nat → α := fun t => if t = i then v else f t
def Sz.src (s : Sz) (d : Nat) : Qz := (s.line (1 - d)).way d
def Sz.dst (s : Sz) (d : Nat) : Qz := (s.line d).way d
def Sz.turn (s : Sz) (i j : Nat) (q : Qz) : Sz := ⟨upd s.line i ((s.line i).set j q), s.r⟩

/-- where all lies; by labels which blocks are whose: 1 the relay's, 2 the clock's, 3 and 4 the lines', 5 to 8 the queues', 9 the events' -/
structure Lo where
  rb : Nat
  cb : Nat
  pb : Nat → Nat
  b : Nat → Nat → Nat
  FF : Nat → Nat → List Nat
  wv : Nat → Wv
  ev : Wv
  L : Nat → Nat
def Lo.cells (o : Lo) (r : Rz) : Array Value := rcells (o.pb 0) (o.pb 1) o.cb (o.wv 0) (o.wv 1) (.slice o.ev.A r.ev.length o.ev.c) r
structure SIs (W : World) (o : Lo) (s : Sz) : Prop where
  oth : Oth W
  blk : W.heap[o.rb]? = some (.cells (o.cells s.r) 133 (0, 0))
  clk : CIs W o.cb s.r.clk
  line : ∀ i, i < 2 → PIs W (o.pb i) (o.FF i) (s.line i) (o.b i)
  wait : ∀ d, d < 2 → ReadsInt W .u8 (o.wv d).A (s.r.wait d).length (s.r.wait d) ∧ (s.r.wait d).length ≤ (o.wv d).c ∧ ∀ a, (o.wv d).A = some a → o.L a.block = 0 ∧ a.block < W.heap.size
  ev : Kd.R QA.k42 42 W 0 (fun k => o.L k = 9) (.slice o.ev.A s.r.ev.length o.ev.c) s.r.ev
  lrb : o.L o.rb = 1
  lcb : o.L o.cb = 2
  lpb : ∀ i, i < 2 → o.L (o.pb i) = 3 + i
  lq : ∀ i j, i < 2 → j < 2 → ∀ k ∈ o.FF i j, o.L k = 5 + 2 * i + j
  l1 : o.L 1 = 0
  new : ∀ k, W.heap.size ≤ k → o.L k = 0
  left : s.r.left ≤ 262144
  evn : s.r.ev.length ≤ 4096

theorem reads_ch {A : Option Addr} {n : Nat} {xs : List Int} (h : ReadsInt W .u8 A n xs) (hc : Ch F W W1) (hA : ∀ a, A = some a → a.block ∉ F) : ReadsInt W1 .u8 A n xs :=
  ⟨h.1, h.2.1, fun h0 => by
    obtain ⟨ad, e, hx⟩ := h.2.2 h0
    exact ⟨ad, e, fun j hj => hc.cell (hx j hj) (by have := hA ad e; simp only [Addr.add]; split <;> exact this)⟩⟩

/-- all parts but those labelled i stay; the labels of the blocks that were there stay -/
structure Kept_ (W1 : World) (o : Lo) (s : Sz) (i : Nat) (L : Nat → Nat) : Prop where
  oth : i ≠ 0 → Oth W1
  blk : i ≠ 1 → W1.heap[o.rb]? = some (.cells (o.cells s.r) 133 (0, 0))
  clk : i ≠ 2 → CIs W1 o.cb s.r.clk
  line : ∀ t, t < 2 → i ≠ 3 + t → i ≠ 5 + 2 * t → i ≠ 6 + 2 * t → PIs W1 (o.pb t) (o.FF t) (s.line t) (o.b t)
  wait : i ≠ 0 → ∀ d, d < 2 → ReadsInt W1 .u8 (o.wv d).A (s.r.wait d).length (s.r.wait d) ∧ (s.r.wait d).length ≤ (o.wv d).c ∧ ∀ a, (o.wv d).A = some a → L a.block = 0 ∧ a.block < W1.heap.size
  ev : i ≠ 9 → Kd.R QA.k42 42 W1 0 (fun k => L k = 9) (.slice o.ev.A s.r.ev.length o.ev.c) s.r.ev
  lrb : L o.rb = 1
  lcb : L o.cb = 2
  lpb : ∀ i, i < 2 → L (o.pb i) = 3 + i
  lq : ∀ i j, i < 2 → j < 2 → ∀ k ∈ o.FF i j, L k = 5 + 2 * i + j
  l1 : L 1 = 0

variable {o : Lo} {s : Sz}
theorem SIs.lt_rb (h : SIs W o s) : o.rb < W.heap.size := lt_of_heap h.blk
theorem SIs.lt_cb (h : SIs W o s) : o.cb < W.heap.size := lt_of_heap h.clk
theorem SIs.lt_pb (h : SIs W o s) (i : Nat) (hi : i < 2) : o.pb i < W.heap.size := lt_of_heap (h.line i hi).blk
theorem SIs.lt_q (h : SIs W o s) (i j : Nat) (hi : i < 2) (hj : j < 2) : ∀ k ∈ o.FF i j, k < W.heap.size := ((h.line i hi).q j hj).lt
theorem lt_of_cell {a : Addr} {v : Value} (h : W.cell? a = some v) : a.block < W.heap.size := World.block_lt_of_cell? W a h

theorem SIs.keep (h : SIs W o s) (hc : Ch F W W1) {i : Nat} (hF : ∀ k ∈ F, o.L k = i) {L : Nat → Nat} (hL : ∀ k, k < W.heap.size → L k = o.L k) : Kept_ W1 o s i L := by
  have hn : ∀ {k j : Nat}, o.L k = j → i ≠ j → k ∉ F := fun hk hij hm => hij ((hF _ hm).symm.trans hk)
  refine ⟨fun h0 => ⟨hc.cell h.oth.1 (hn h.l1 h0), hc.cell h.oth.2 (hn h.l1 h0)⟩, fun h1 => hc.heap h.blk (hn h.lrb h1), fun h2 => h.clk.frame hc (hn h.lcb h2), fun t ht h3 h4 h5 => (h.line t ht).frame hc (hn (h.lpb t ht) h3) (fun j hj k hk => hn (h.lq t j ht hj k hk) (by
      obtain rfl | rfl : j = 0 ∨ j = 1 := by omega
      · exact h4
      · omega)), fun h0 d hd => ?_, fun h9 => ?_, (hL _ h.lt_rb).trans h.lrb, (hL _ h.lt_cb).trans h.lcb, fun j hj => (hL _ (h.lt_pb j hj)).trans (h.lpb j hj), fun j t hj ht k hk => (hL _ (h.lt_q j t hj ht k hk)).trans (h.lq j t hj ht k hk), ?_⟩
  · obtain ⟨w1, w2, w3⟩ := h.wait d hd
    exact ⟨reads_ch w1 hc (fun a ha => hn (w3 a ha).1 h0), w2, fun a ha => ⟨(hL _ (w3 a ha).2).trans (w3 a ha).1, Nat.lt_of_lt_of_le (w3 a ha).2 hc.size⟩⟩
  · exact Kd.R_mono (Kd.R_move (Kd.R_bound h.ev) (fun k hk => hc.block k hk.2.2.1 (hn hk.1 h9))) (fun k hk => (hL k hk.2.2.1).trans hk.1)
  · exact (hL 1 (lt_of_cell h.oth.1)).trans h.l1

structure Nxt (o : Lo) (W : World) (o' : Lo) (W' : World) : Prop where
  rb : o'.rb = o.rb
  cb : o'.cb = o.cb
  pb : o'.pb = o.pb
  b : o'.b = o.b
  ch : ∃ F, Ch F W W' ∧ ∀ k ∈ F, k < W.heap.size → o.L k ≠ 0
  old : ∀ k, k < W.heap.size → o'.L k = o.L k
theorem Nxt.refl (o : Lo) (W : World) : Nxt o W o W := ⟨rfl, rfl, rfl, rfl, ⟨[], Ch.refl _ _, by simp⟩, fun _ _ => rfl⟩
theorem Nxt.size {o o' : Lo} (h : Nxt o W o' W1) : W.heap.size ≤ W1.heap.size := by obtain ⟨F, hc, _⟩ := h.ch; exact hc.size
theorem Nxt.trans {o o1 o2 : Lo} (h : Nxt o W o1 W1) (h1 : Nxt o1 W1 o2 W2) : Nxt o W o2 W2 := by
  have hs := h.size
  obtain ⟨F, hc, hF⟩ := h.ch
  obtain ⟨F1, hc1, hF1⟩ := h1.ch
  refine ⟨h1.rb.trans h.rb, h1.cb.trans h.cb, h1.pb.trans h.pb, h1.b.trans h.b, ⟨F ++ F1, (hc.mono (fun k hk => .inl (List.mem_append_left _ hk))).trans hc1 (fun k hk => .inl (List.mem_append_right _ hk)), fun k hk hlt => ?_⟩, fun k hk => (h1.old k (Nat.lt_of_lt_of_le hk hs)).trans (h.old k hk)⟩
  rcases List.mem_append.1 hk with hk | hk
  · exact hF k hk hlt
  · rw [← h.old k hlt]; exact hF1 k hk (Nat.lt_of_lt_of_le hlt hs)
theorem Nxt.heap {o o' : Lo} (h : Nxt o W o' W1) {k : Nat} {x : Obj} (hk : W.heap[k]? = some x) (hL : o.L k = 0) : W1.heap[k]? = some x ∧ o'.L k = 0 := by
  obtain ⟨F, hc, hF⟩ := h.ch
  exact ⟨hc.heap hk (fun hm => hF k hm (lt_of_heap hk) hL), (h.old k (lt_of_heap hk)).trans hL⟩
theorem Nxt.below {o o' : Lo} (h : Nxt o W o' W1) {B : Nat} (hB : B ≤ W.heap.size) (hL : ∀ k, o.L k ≠ 0 → B ≤ k) : Below B W W1 ∧ ∀ k, k < W.heap.size → o'.L k ≠ 0 → B ≤ k := by
  obtain ⟨F, hc, hF⟩ := h.ch
  refine ⟨⟨hc.os, hc.tape, hc.output, hc.size, fun k hk => hc.block k (Nat.lt_of_lt_of_le hk hB) (fun hm => ?_)⟩, fun k hk hn => hL k (by rwa [h.old k hk] at hn)⟩
  have := hL k (hF k hm (Nat.lt_of_lt_of_le hk hB)); omega

/-- only new blocks -/
theorem SIs.below (h : SIs W o s) (hb : Below W.heap.size W W1) : SIs W1 o s := by
  have k := h.keep (Ch.of_below hb []) (i := 10) (by simp) (L := o.L) (fun _ _ => rfl)
  exact ⟨k.oth (by decide), k.blk (by decide), k.clk (by decide), fun i hi => k.line i hi (by omega) (by omega) (by omega), k.wait (by decide), k.ev (by decide), k.lrb, k.lcb, k.lpb, k.lq, k.l1, fun j hj => h.new j (Nat.le_trans hb.size hj), h.left, h.evn⟩
theorem Nxt.of_below (o : Lo) (hb : Below W.heap.size W W1) : Nxt o W o W1 := ⟨rfl, rfl, rfl, rfl, ⟨[], Ch.of_below hb [], by simp⟩, fun _ _ => rfl⟩

/-- a queue of a line turns -/
theorem SIs.turn (h : SIs W o s) (i j : Nat) (hi : i < 2) (hj : j < 2) {G : List Nat} {q : Qz} (hp : PIs W1 (o.pb i) (setF (o.FF i) j G) ((s.line i).set j q) (o.b i)) (hG : ∀ f ∈ G, f ∈ o.FF i j ∨ W.heap.size ≤ f) (hc : Ch (o.FF i j) W W1) :
    ∃ o', SIs W1 o' (s.turn i j q) ∧ Nxt o W o' W1 ∧ o'.wv = o.wv ∧ o'.ev = o.ev ∧ ∀ k, k ∉ G → o'.L k = o.L k := by
  have hold : ∀ k, k < W.heap.size → (fun k => if k ∈ G then 5 + 2 * i + j else o.L k) k = o.L k := by
    intro k hk
    by_cases hm : k ∈ G
    · simp only [hm, if_true]
      rcases hG k hm with h1 | h1
      · exact (h.lq i j hi hj k h1).symm
      · omega
    · simp only [hm, if_false]
  have kp := h.keep hc (i := 5 + 2 * i + j) (h.lq i j hi hj) hold
  refine ⟨{ o with FF := upd o.FF i (setF (o.FF i) j G), L := fun k => if k ∈ G then 5 + 2 * i + j else o.L k }, ⟨kp.oth (by omega), kp.blk (by omega), kp.clk (by omega), fun t ht => ?_, kp.wait (by omega), kp.ev (by omega), kp.lrb, kp.lcb, kp.lpb, fun t u ht hu k hk => ?_, kp.l1, fun k hk => ?_, h.left, h.evn⟩, ⟨rfl, rfl, rfl, rfl, ⟨o.FF i j, hc, fun k hk _ => by rw [h.lq i j hi hj k hk]; omega⟩, hold⟩, rfl, rfl, fun k hk => if_neg hk⟩
  · by_cases e : t = i
    · subst e; simpa [upd, Sz.turn] using hp
    · simp only [upd, Sz.turn, e, if_false]
      exact kp.line t ht (by omega) (by omega) (by omega)
  · by_cases e : t = i
    · subst e
      simp only [upd, if_true] at hk
      by_cases e2 : u = j
      · subst e2
        simp only [setF, if_true] at hk
        simp only [hk, if_true]
      · simp only [setF, e2, if_false] at hk
        exact kp.lq t u ht hu k hk
    · simp only [upd, e, if_false] at hk
      exact kp.lq t u ht hu k hk
  · have hlt : k ∉ G := by
      intro hm
      have := (hp.q j hj).lt k (by simpa [setF] using hm)
      omega
    simp only [hlt, if_false]
    exact h.new k (Nat.le_trans hc.size hk)
end
end Go.Proofs.YtbdknddgfmoipaaGreatDoor.TQ
namespace Go.Proofs.YtbdknddgfmoipaaGreatDoor.TQ
open Go.RowKit Go.Shelf Go.Proofs.YtbdknddgfmoipaaGreatDoorW.PrintWords Go.Proofs.YtbdknddgfmoipaaGreatDoorW.PrintLast Go.Proofs.YtbdknddgfmoipaaGreatDoorW.PrintMore
set_option linter.unusedVariables false
set_option linter.unusedSimpArgs false


section
variable {F F1 : List Nat} {W W1 W2 W' : World} {o : Lo} {s : Sz}

theorem SIs.store (h : SIs W o s) (j : Nat) (v : Value) (r' : Rz) (wv' : Nat → Wv) (hcells : ({ o with wv := wv' } : Lo).cells r' = (o.cells s.r).setIfInBounds j v) (hclk : r'.clk = s.r.clk) (hev : r'.ev = s.r.ev)
    (hw : ∀ d, d < 2 → ReadsInt W .u8 (wv' d).A (r'.wait d).length (r'.wait d) ∧ (r'.wait d).length ≤ (wv' d).c ∧ ∀ a, (wv' d).A = some a → o.L a.block = 0 ∧ a.block < W.heap.size) (hl : r'.left ≤ 262144) :
    SIs (W.setCell ⟨o.rb, j, none⟩ v) { o with wv := wv' } ⟨s.line, r'⟩ ∧ Nxt o W { o with wv := wv' } (W.setCell ⟨o.rb, j, none⟩ v) := by
  have hc : Ch [o.rb] W (W.setCell ⟨o.rb, j, none⟩ v) := (Ch.refl _ _).set (by simp) _ _
  have hF : ∀ k ∈ [o.rb], o.L k = 1 := by simpa using h.lrb
  have kp := h.keep hc hF (L := o.L) (fun _ _ => rfl)
  refine ⟨⟨kp.oth (by decide), ?_, ?_, fun t ht => kp.line t ht (by omega) (by omega) (by omega), fun d hd => ?_, ?_, kp.lrb, kp.lcb, kp.lpb, kp.lq, kp.l1, fun k hk => h.new k (Nat.le_trans hc.size hk), hl, ?_⟩, ⟨rfl, rfl, rfl, rfl, ⟨[o.rb], hc, fun k hk _ => by rw [hF k hk]; decide⟩, fun _ _ => rfl⟩⟩
  · have h1 := blk_set h.blk j v
    rw [← hcells] at h1; exact h1
  · show CIs _ o.cb r'.clk
    rw [hclk]; exact kp.clk (by decide)
  · obtain ⟨w1, w2, w3⟩ := hw d hd
    refine ⟨reads_ch w1 hc (fun a ha hm => ?_), w2, fun a ha => ⟨(w3 a ha).1, Nat.lt_of_lt_of_le (w3 a ha).2 hc.size⟩⟩
    have h1 := hF _ hm
    rw [(w3 a ha).1] at h1
    cases h1
  · show Kd.R QA.k42 42 _ 0 (fun k => o.L k = 9) (.slice o.ev.A r'.ev.length o.ev.c) r'.ev
    rw [hev]; exact kp.ev (by decide)
  · show r'.ev.length ≤ 4096
    rw [hev]; exact h.evn

theorem reads_take {A : Option Addr} {n : Nat} {xs : List Int} (h : ReadsInt W .u8 A n xs) (m : Nat) (hm : m ≤ n) : ReadsInt W .u8 A m (xs.take m) := by
  have h1 := h.1
  refine ⟨by rw [List.length_take]; omega, by have := h.2.1; omega, fun h0 => ?_⟩
  obtain ⟨ad, e, hx⟩ := h.2.2 (by omega)
  refine ⟨ad, e, fun j hj => ?_⟩
  rw [hx j (by omega)]
  simp only [List.getD_eq_getElem?_getD, List.getElem?_take, hj, if_true]
theorem reads_drop {A : Option Addr} {n c : Nat} {xs : List Int} (h : ReadsInt W .u8 A n xs) (m : Nat) (hm : m ≤ n) (hc : n ≤ c) : ReadsInt W .u8 (if c = m then A else A.map (·.add (m * 1))) (n - m) (xs.drop m) := by
  have h1 := h.1
  refine ⟨by rw [List.length_drop]; omega, by have := h.2.1; omega, fun h0 => ?_⟩
  obtain ⟨ad, e, hx⟩ := h.2.2 (by omega)
  subst e
  refine ⟨ad.add (m * 1), ?_, fun j hj => ?_⟩
  · rw [if_neg (by omega)]; rfl
  · have h2 := hx (m + j) (by omega)
    have e2 : (ad.add (m * 1)).add j = ad.add (m + j) := by
      obtain ⟨ab, ao, ap⟩ := ad
      simp only [Addr.add, Nat.mul_one]
      (repeat' split) <;> simp_all <;> omega
    rw [e2, h2]
    simp only [List.getD_eq_getElem?_getD, List.getElem?_drop]

def Sz.give (s : Sz) (d : Nat) (n : Int) : List Int := (s.r.wait d).take (max 0 (min n (s.r.wait d).length)).toNat
def Sz.gives (s : Sz) (d : Nat) (n : Int) : Nat := min (s.give d n).length (s.dst d).room
def Sz.write (s : Sz) (d : Nat) (n : Int) : Sz :=
  ⟨(s.turn d d ((s.dst d).put (s.give d n))).line, { s.r with wait := upd s.r.wait d ((s.r.wait d).drop (s.gives d n)) }⟩
end
end Go.Proofs.YtbdknddgfmoipaaGreatDoor.TQ
namespace Go.Proofs.YtbdknddgfmoipaaGreatDoor.TQ
open Go.RowKit Go.Shelf Go.Proofs.YtbdknddgfmoipaaGreatDoorW.PrintWords Go.Proofs.YtbdknddgfmoipaaGreatDoorW.PrintLast Go.Proofs.YtbdknddgfmoipaaGreatDoorW.PrintMore
set_option linter.unusedVariables false
set_option linter.unusedSimpArgs false


section
variable {F F1 : List Nat} {W W1 W2 W' : World} {o : Lo} {s : Sz}
theorem SIs.cell (h : SIs W o s) (j : Nat) : W.cell? ⟨o.rb, j, none⟩ = (o.cells s.r)[j]? := blk_cell h.blk j

theorem s_Write (h : SIs W o s) (i j k : Nat) (hi : i < 2) (hj : j < 2) (hk : k = 1 - j) (sd : Int) (he : sd = j) (A : Option Addr) (n c : Nat) (ys : List Int) (hy : ReadsInt W .u8 A n ys) (hnc : n ≤ c) (hA : 0 < n → ∀ a, A = some a → o.L a.block = 0) :
    Calls Tryz.prog 27 #[.pointer (some ⟨o.pb i, 0, none⟩), .int .i64 sd, .slice A n c] W fun e W' => ∃ (r : Nat) (o' : Lo), e = .returned (.int .i64 (r : Int)) ∧ r = min ys.length ((s.line i).way k).room ∧ SIs W' o' (s.turn i k (((s.line i).way k).put ys)) ∧ Nxt o W o' W' ∧ o'.wv = o.wv ∧ o'.ev = o.ev := by
  subst he hk
  have hk : 1 - j < 2 := by omega
  refine (p_Write (h.line i hi) h.oth j hj A n c ys hy hnc (fun h0 a ha hm => ?_)).mono ?_
  · have h1 := h.lq i (1 - j) hi hk _ hm
    rw [hA h0 a ha] at h1; omega
  · rintro e W1 ⟨rfl, F1, hp, hF, hc⟩
    obtain ⟨o', h1, h2, h3, h4, h5⟩ := h.turn i (1 - j) hi hk hp hF hc
    exact ⟨_, o', rfl, by rw [hy.1], h1, h2, h3, h4⟩
theorem s_Read (h : SIs W o s) (i j : Nat) (hi : i < 2) (hj : j < 2) (sd : Int) (he : sd = j) (n : Int) :
    Calls Tryz.prog 28 #[.pointer (some ⟨o.pb i, 0, none⟩), .int .i64 sd, .int .i64 n] W fun e W' => ∃ (v : Value) (ys : List Int) (o' : Lo), e = .returned v ∧ ys = ((s.line i).way j).take n ∧ W'.ownsRow W.heap.size 5 1 v ys.length (nums .u8 ys) ∧ SIs W' o' (s.turn i j (((s.line i).way j).drop n)) ∧ Nxt o W o' W' ∧ o'.wv = o.wv ∧ o'.ev = o.ev ∧ ∀ k, W.heap.size ≤ k → o'.L k = 0 := by
  subst he
  refine (p_Read (h.line i hi) j hj n).mono ?_
  rintro e W1 ⟨v, rfl, ho, hp, hc⟩
  have hF : setF (o.FF i) j (o.FF i j) = o.FF i := by funext t; simp only [setF]; split <;> simp_all
  rw [← hF] at hp
  obtain ⟨o', h1, h2, h3, h4, h5⟩ := h.turn i j hi hj hp (fun f hf => .inl hf) hc
  exact ⟨v, _, o', rfl, rfl, ho, h1, h2, h3, h4, fun k hk => (h5 k (fun hm => by have := h.lq i j hi hj; have := h.lt_q i j hi hj k hm; omega)).trans (h.new k hk)⟩
theorem s_Hang (h : SIs W o s) (i j k : Nat) (hi : i < 2) (hj : j < 2) (hk : k = 1 - j) (sd : Int) (he : sd = j) :
    Calls Tryz.prog 29 #[.pointer (some ⟨o.pb i, 0, none⟩), .int .i64 sd] W fun e W' => ∃ (o' : Lo), e = .returned (.tuple #[]) ∧ SIs W' o' (s.turn i k ((s.line i).way k).end_) ∧ Nxt o W o' W' ∧ o'.wv = o.wv ∧ o'.ev = o.ev := by
  subst he hk
  have hk : 1 - j < 2 := by omega
  refine (p_Hang (h.line i hi) h.oth j hj).mono ?_
  rintro e W1 ⟨rfl, hp, hc⟩
  have hF : setF (o.FF i) (1 - j) (o.FF i (1 - j)) = o.FF i := by funext t; simp only [setF]; split <;> simp_all
  rw [← hF] at hp
  obtain ⟨o', h1, h2, h3, h4, h5⟩ := h.turn i (1 - j) hi hk hp (fun f hf => .inl hf) hc
  exact ⟨o', rfl, h1, h2, h3, h4⟩
theorem s_Over (h : SIs W o s) (i j : Nat) (hi : i < 2) (hj : j < 2) (sd : Int) (he : sd = j) :
    Calls Tryz.prog 72 #[.pointer (some ⟨o.pb i, 0, none⟩), .int .i64 sd] W fun e W' => e = .returned (.bool ((s.line i).way j).over) ∧ W' = W := by
  subst he
  exact p_Over (h.line i hi) j hj
end
end Go.Proofs.YtbdknddgfmoipaaGreatDoor.TQ
namespace Go.Proofs.YtbdknddgfmoipaaGreatDoor.TQ
open Go.RowKit Go.Shelf Go.Proofs.YtbdknddgfmoipaaGreatDoorW.PrintWords Go.Proofs.YtbdknddgfmoipaaGreatDoorW.PrintLast Go.Proofs.YtbdknddgfmoipaaGreatDoorW.PrintMore
set_option linter.unusedVariables false
set_option linter.unusedSimpArgs false


section
variable {F F1 : List Nat} {W W1 W2 W' : World} {o : Lo} {s : Sz}

set_option maxRecDepth 100000 in
set_option maxHeartbeats 1000000 in
theorem r_write0 (h : SIs W o s) (n : Int) : Calls Tryz.prog 48 #[.pointer (some ⟨o.rb, 0, none⟩), .int .i64 0, .int .i64 n] W fun e W' => ∃ v o', e = .returned v ∧ SIs W' o' (s.write 0 n) ∧ Nxt o W o' W' := by
  obtain ⟨hr, hle, hlab⟩ := h.wait 0 (by decide)
  obtain ⟨A, c, hv⟩ : ∃ A c, o.wv 0 = ⟨A, c⟩ := ⟨_, _, rfl⟩
  rw [hv] at hr hle hlab
  obtain ⟨len, hlen⟩ : ∃ len, len = (s.r.wait 0).length := ⟨_, rfl⟩
  obtain ⟨m0, hm0⟩ : ∃ m0 : Int, m0 = min n (len : Int) := ⟨_, rfl⟩
  obtain ⟨m, hm⟩ : ∃ m : Nat, m = (max 0 m0).toNat := ⟨_, rfl⟩
  have hmm : (m : Int) = max 0 m0 := by omega
  have hml : m ≤ len := by omega
  rw [← hlen] at hr hle
  have c1 : W.cell? ⟨o.rb, 1, none⟩ = some (.pointer (some ⟨o.pb 0, 0, none⟩)) := h.cell 1
  have c3 : W.cell? ⟨o.rb, 3, none⟩ = some (.int .i64 1) := h.cell 3
  have c4 : W.cell? ⟨o.rb, 4, none⟩ = some (.slice A len c) := by rw [h.cell 4, hlen]; show some (Value.slice (o.wv 0).A _ (o.wv 0).c) = _; rw [hv]
  obtain ⟨i0, hi0, hz0, hz1, hz2⟩ := info_parts info5
  have hmin := fun ats ty => min_is n (len : Int) m0 hm0 ats ty
  have hmax := fun ats ty => max_is 0 m0 (m : Int) hmm ats ty
  have hcut := cut_to (P := Tryz.prog) 25 5 .i64 Tryz.underlying25 hi0 A len c (m : Int) (by omega) (by omega) hle
  simp only [Int.toNat_natCast] at hcut
  have HCF := Lib.hid (fun (k : Nat) (hk : k ≤ len) => cut_from (P := Tryz.prog) 25 5 .i64 Tryz.underlying25 hi0 1 hz1 A len c (k : Int) (by omega) (by omega))
  have HD := Lib.hid (reads_drop (W := W) (c := c) hr)
  have h1 := h.below (W1 := W.drew) (below_drew (Below.refl _ _))
  have HH := Lib.hid h1
  have HN := Lib.hid (Nxt.of_below o (W := W) (W1 := W.drew) (below_drew (Below.refl _ _)))
  have HR1 := Lib.hid (ReadsInt.below hr (w1 := W.drew) (below_drew (Below.refl _ _)))
  have HT1 := Lib.hid (reads_take HR1.out m hml)
  have HL := Lib.hid hle
  have HM := Lib.hid hml
  have HV := Lib.hid hv
  have HE := Lib.hid hlen
  have HQ := Lib.hid hm
  have HM0 := Lib.hid hm0
  have HA := Lib.hid hlab
  clear h h1 hr hle hlab hz0 hz1 hz2 hi0 hm0 hmm hml hv hlen hm
  go_enter Tryz.func48, Tryz.ntmps48
  go_upto_region 2 with (fail)
  go_still_tail 21, (by kernel_rfl)
  change wpList _ _ _ _ _ W.drew
  clear c1 c3 c4
  generalize W.drew = W1 at HH HN HT1 HR1 ⊢
  have HC := Lib.hid (s_Write HH.out 0 1 0 (by decide) (by decide) rfl 1 rfl A m c _ HT1.out (Nat.le_trans HM.out HL.out) (fun _ a ha => (HA.out a ha).1))
  go_wp2_with (go_at_call 27; (with_reducible refine HC.out.mono ?_); (rintro e W2 ⟨k, o1, rfl, hk, hs, hn, hwv, hev⟩); (have hkl : k ≤ len := by have h1 := HT1.out.1; have h2 := HM.out; omega); (have hcf := HCF.out k hkl; simp only [Int.toNat_natCast] at hcf); (obtain ⟨A2, hA2⟩ : ∃ A2, A2 = (if c = k then A else A.map (·.add (k * 1))) := ⟨_, rfl⟩); (rw [← hA2] at hcf); (have HA2 := Lib.hid hA2; clear hA2); (have HKL := Lib.hid hkl; have HK := Lib.hid hk; have HS := Lib.hid hs; have HN2 := Lib.hid hn; have HWV := Lib.hid hwv; have HEV := Lib.hid hev); (have c4 : W2.cell? ⟨o.rb, 4, none⟩ = some (.slice A len c) := by have h1 := hs.cell 4; rw [hn.rb] at h1; rw [h1, HE.out]; show some (Value.slice (o1.wv 0).A _ (o1.wv 0).c) = _; rw [hwv, HV.out]; rfl); (have f4 : W2.frozen? ⟨o.rb, 4, none⟩ = false := by have h1 := blk_frozen hs.blk 4; rwa [hn.rb] at h1); clear hkl hk hs hn hwv hev HC)
  go_ret
  have hs := HS.out
  have hn := HN2.out
  have hx : s.give 0 n = (s.r.wait 0).take m := by rw [HQ.out, HM0.out, HE.out]; rfl
  have hk2 : s.gives 0 n = k := by rw [HK.out]; unfold Sz.gives; rw [hx]; rfl
  have h2 := hs.store 4 (.slice A2 (len - k) (c - k)) { s.r with wait := upd s.r.wait 0 ((s.r.wait 0).drop k) } (upd o.wv 0 ⟨A2, c - k⟩) ?_ rfl rfl ?_ hs.left
  · obtain ⟨h3, h4⟩ := h2
    rw [hn.rb] at h3 h4
    refine ⟨_, _, rfl, ?_, HN.out.trans (hn.trans h4)⟩
    have e : s.write 0 n = ⟨(s.turn 0 0 (((s.line 0).way 0).put (List.take m (s.r.wait 0)))).line, { s.r with wait := upd s.r.wait 0 ((s.r.wait 0).drop k) }⟩ := by
      unfold Sz.write; rw [hk2, hx]; rfl
    rw [e]; exact h3
  · have h5 := HE.out
    have h6 := HWV.out
    have h7 : ((s.r.wait 0).drop k).length = len - k := by rw [List.length_drop]; omega
    simp only [Lo.cells, rcells, upd, h6, h7, Sz.turn]
    simp [h7]
  · intro d hd
    by_cases e : d = 0
    · subst e
      have h5 := HE.out
      have h7 : ((s.r.wait 0).drop k).length = len - k := by rw [List.length_drop]; omega
      have hA := HA.out
      simp only [upd, if_true, h7]
      have hsz := HN.out.size
      have hsz2 := hn.size
      refine ⟨?_, by have := HL.out; omega, ?_⟩
      · have h8 := reads_drop (c := c) HR1.out k HKL.out HL.out
        rw [← HA2.out] at h8
        obtain ⟨Fx, hcx, hFx⟩ := hn.ch
        refine reads_ch h8 hcx (fun a ha hm => ?_)
        have hlt : a.block < W.heap.size ∧ o.L a.block = 0 := by
          rw [HA2.out] at ha
          split at ha
          · exact ⟨(hA a ha).2, (hA a ha).1⟩
          · obtain ⟨a0, ha0, rfl⟩ := Option.map_eq_some_iff.1 ha
            have : (a0.add (k * 1)).block = a0.block := by simp only [Addr.add]; split <;> rfl
            rw [this]; exact ⟨(hA a0 ha0).2, (hA a0 ha0).1⟩
        exact hFx _ hm (by omega) hlt.2
      · intro a ha
        have hlt : a.block < W.heap.size ∧ o.L a.block = 0 := by
          rw [HA2.out] at ha
          split at ha
          · exact ⟨(hA a ha).2, (hA a ha).1⟩
          · obtain ⟨a0, ha0, rfl⟩ := Option.map_eq_some_iff.1 ha
            have : (a0.add (k * 1)).block = a0.block := by simp only [Addr.add]; split <;> rfl
            rw [this]; exact ⟨(hA a0 ha0).2, (hA a0 ha0).1⟩
        exact ⟨(hn.old _ (by omega)).trans hlt.2, by omega⟩
    · simp only [upd, e, if_false]
      have h8 := hs.wait d hd
      rw [HWV.out] at h8
      exact h8

set_option maxRecDepth 100000 in
set_option maxHeartbeats 1000000 in
theorem r_write1 (h : SIs W o s) (n : Int) : Calls Tryz.prog 48 #[.pointer (some ⟨o.rb, 0, none⟩), .int .i64 1, .int .i64 n] W fun e W' => ∃ v o', e = .returned v ∧ SIs W' o' (s.write 1 n) ∧ Nxt o W o' W' := by
  obtain ⟨hr, hle, hlab⟩ := h.wait 1 (by decide)
  obtain ⟨A, c, hv⟩ : ∃ A c, o.wv 1 = ⟨A, c⟩ := ⟨_, _, rfl⟩
  rw [hv] at hr hle hlab
  obtain ⟨len, hlen⟩ : ∃ len, len = (s.r.wait 1).length := ⟨_, rfl⟩
  obtain ⟨m0, hm0⟩ : ∃ m0 : Int, m0 = min n (len : Int) := ⟨_, rfl⟩
  obtain ⟨m, hm⟩ : ∃ m : Nat, m = (max 0 m0).toNat := ⟨_, rfl⟩
  have hmm : (m : Int) = max 0 m0 := by omega
  have hml : m ≤ len := by omega
  rw [← hlen] at hr hle
  have c1 : W.cell? ⟨o.rb, 7, none⟩ = some (.pointer (some ⟨o.pb 1, 0, none⟩)) := h.cell 7
  have c3 : W.cell? ⟨o.rb, 9, none⟩ = some (.int .i64 0) := h.cell 9
  have c4 : W.cell? ⟨o.rb, 10, none⟩ = some (.slice A len c) := by rw [h.cell 10, hlen]; show some (Value.slice (o.wv 1).A _ (o.wv 1).c) = _; rw [hv]
  obtain ⟨i0, hi0, hz0, hz1, hz2⟩ := info_parts info5
  have hmin := fun ats ty => min_is n (len : Int) m0 hm0 ats ty
  have hmax := fun ats ty => max_is 0 m0 (m : Int) hmm ats ty
  have hcut := cut_to (P := Tryz.prog) 25 5 .i64 Tryz.underlying25 hi0 A len c (m : Int) (by omega) (by omega) hle
  simp only [Int.toNat_natCast] at hcut
  have HCF := Lib.hid (fun (k : Nat) (hk : k ≤ len) => cut_from (P := Tryz.prog) 25 5 .i64 Tryz.underlying25 hi0 1 hz1 A len c (k : Int) (by omega) (by omega))
  have HD := Lib.hid (reads_drop (W := W) (c := c) hr)
  have h1 := h.below (W1 := W.drew) (below_drew (Below.refl _ _))
  have HH := Lib.hid h1
  have HN := Lib.hid (Nxt.of_below o (W := W) (W1 := W.drew) (below_drew (Below.refl _ _)))
  have HR1 := Lib.hid (ReadsInt.below hr (w1 := W.drew) (below_drew (Below.refl _ _)))
  have HT1 := Lib.hid (reads_take HR1.out m hml)
  have HL := Lib.hid hle
  have HM := Lib.hid hml
  have HV := Lib.hid hv
  have HE := Lib.hid hlen
  have HQ := Lib.hid hm
  have HM0 := Lib.hid hm0
  have HA := Lib.hid hlab
  clear h h1 hr hle hlab hz0 hz1 hz2 hi0 hm0 hmm hml hv hlen hm
  go_enter Tryz.func48, Tryz.ntmps48
  go_upto_region 2 with (fail)
  go_still_tail 21, (by kernel_rfl)
  change wpList _ _ _ _ _ W.drew
  clear c1 c3 c4
  generalize W.drew = W1 at HH HN HT1 HR1 ⊢
  have HC := Lib.hid (s_Write HH.out 1 0 1 (by decide) (by decide) rfl 0 rfl A m c _ HT1.out (Nat.le_trans HM.out HL.out) (fun _ a ha => (HA.out a ha).1))
  go_wp2_with (go_at_call 27; (with_reducible refine HC.out.mono ?_); (rintro e W2 ⟨k, o1, rfl, hk, hs, hn, hwv, hev⟩); (have hkl : k ≤ len := by have h1 := HT1.out.1; have h2 := HM.out; omega); (have hcf := HCF.out k hkl; simp only [Int.toNat_natCast] at hcf); (obtain ⟨A2, hA2⟩ : ∃ A2, A2 = (if c = k then A else A.map (·.add (k * 1))) := ⟨_, rfl⟩); (rw [← hA2] at hcf); (have HA2 := Lib.hid hA2; clear hA2); (have HKL := Lib.hid hkl; have HK := Lib.hid hk; have HS := Lib.hid hs; have HN2 := Lib.hid hn; have HWV := Lib.hid hwv; have HEV := Lib.hid hev); (have c4 : W2.cell? ⟨o.rb, 10, none⟩ = some (.slice A len c) := by have h1 := hs.cell 10; rw [hn.rb] at h1; rw [h1, HE.out]; show some (Value.slice (o1.wv 1).A _ (o1.wv 1).c) = _; rw [hwv, HV.out]; rfl); (have f4 : W2.frozen? ⟨o.rb, 10, none⟩ = false := by have h1 := blk_frozen hs.blk 10; rwa [hn.rb] at h1); clear hkl hk hs hn hwv hev HC)
  go_ret
  have hs := HS.out
  have hn := HN2.out
  have hx : s.give 1 n = (s.r.wait 1).take m := by rw [HQ.out, HM0.out, HE.out]; rfl
  have hk2 : s.gives 1 n = k := by rw [HK.out]; unfold Sz.gives; rw [hx]; rfl
  have h2 := hs.store 10 (.slice A2 (len - k) (c - k)) { s.r with wait := upd s.r.wait 1 ((s.r.wait 1).drop k) } (upd o.wv 1 ⟨A2, c - k⟩) ?_ rfl rfl ?_ hs.left
  · obtain ⟨h3, h4⟩ := h2
    rw [hn.rb] at h3 h4
    refine ⟨_, _, rfl, ?_, HN.out.trans (hn.trans h4)⟩
    have e : s.write 1 n = ⟨(s.turn 1 1 (((s.line 1).way 1).put (List.take m (s.r.wait 1)))).line, { s.r with wait := upd s.r.wait 1 ((s.r.wait 1).drop k) }⟩ := by
      unfold Sz.write; rw [hk2, hx]; rfl
    rw [e]; exact h3
  · have h5 := HE.out
    have h6 := HWV.out
    have h7 : ((s.r.wait 1).drop k).length = len - k := by rw [List.length_drop]; omega
    simp only [Lo.cells, rcells, upd, h6, h7, Sz.turn]
    simp [h7]
  · intro d hd
    by_cases e : d = 1
    · subst e
      have h5 := HE.out
      have h7 : ((s.r.wait 1).drop k).length = len - k := by rw [List.length_drop]; omega
      have hA := HA.out
      simp only [upd, if_true, h7]
      have hsz := HN.out.size
      have hsz2 := hn.size
      refine ⟨?_, by have := HL.out; omega, ?_⟩
      · have h8 := reads_drop (c := c) HR1.out k HKL.out HL.out
        rw [← HA2.out] at h8
        obtain ⟨Fx, hcx, hFx⟩ := hn.ch
        refine reads_ch h8 hcx (fun a ha hm => ?_)
        have hlt : a.block < W.heap.size ∧ o.L a.block = 0 := by
          rw [HA2.out] at ha
          split at ha
          · exact ⟨(hA a ha).2, (hA a ha).1⟩
          · obtain ⟨a0, ha0, rfl⟩ := Option.map_eq_some_iff.1 ha
            have : (a0.add (k * 1)).block = a0.block := by simp only [Addr.add]; split <;> rfl
            rw [this]; exact ⟨(hA a0 ha0).2, (hA a0 ha0).1⟩
        exact hFx _ hm (by omega) hlt.2
      · intro a ha
        have hlt : a.block < W.heap.size ∧ o.L a.block = 0 := by
          rw [HA2.out] at ha
          split at ha
          · exact ⟨(hA a ha).2, (hA a ha).1⟩
          · obtain ⟨a0, ha0, rfl⟩ := Option.map_eq_some_iff.1 ha
            have : (a0.add (k * 1)).block = a0.block := by simp only [Addr.add]; split <;> rfl
            rw [this]; exact ⟨(hA a0 ha0).2, (hA a0 ha0).1⟩
        exact ⟨(hn.old _ (by omega)).trans hlt.2, by omega⟩
    · simp only [upd, e, if_false]
      have h8 := hs.wait d hd
      rw [HWV.out] at h8
      exact h8
end
end Go.Proofs.YtbdknddgfmoipaaGreatDoor.TQ
namespace Go.Proofs.YtbdknddgfmoipaaGreatDoor.TQ
open Go.RowKit Go.Shelf Go.Proofs.YtbdknddgfmoipaaGreatDoorW.PrintWords Go.Proofs.YtbdknddgfmoipaaGreatDoorW.PrintLast Go.Proofs.YtbdknddgfmoipaaGreatDoorW.PrintMore
set_option linter.unusedVariables false
set_option linter.unusedSimpArgs false


section
variable {F F1 : List Nat} {W W1 W2 W' V1 V2 : World} {o o' : Lo} {s : Sz}
theorem min3_is (x y u z : Int) (h : z = min (min x y) u) (ats : Array TypeId) (ty : TypeId) : Builtin.min_ ats ty #[.int .i64 x, .int .i64 y, .int .i64 u] = pure (.int .i64 z) := by
  have h1 : (if y < x then y else x) = min x y := by split <;> omega
  have h2 : (if u < min x y then u else min x y) = z := by rw [h]; split <;> omega
  rw [min_three, min2_int, h1]
  show (Builtin.min2 _ _ >>= fun s => pure s) = _
  rw [min2_int, h2]; rfl
theorem reads_nxt {A : Option Addr} {n : Nat} {xs : List Int} (h : ReadsInt W .u8 A n xs) (hn : Nxt o W o' W1) (hA : ∀ a, A = some a → o.L a.block = 0 ∧ a.block < W.heap.size) : ReadsInt W1 .u8 A n xs ∧ ∀ a, A = some a → o'.L a.block = 0 ∧ a.block < W1.heap.size := by
  obtain ⟨F, hc, hF⟩ := hn.ch
  exact ⟨reads_ch h hc (fun a ha hm => hF _ hm (hA a ha).2 (hA a ha).1), fun a ha => ⟨(hn.old _ (hA a ha).2).trans (hA a ha).1, Nat.lt_of_lt_of_le (hA a ha).2 hc.size⟩⟩
/-- a row of one's own, read -/
theorem own_reads {B : Nat} {A : Option Addr} {n c : Nat} {ys : List Int} (h : W.ownsRow B 5 1 (.slice A n c) ys.length (nums .u8 ys)) : n = ys.length ∧ Kd.C (Kd.int .u8) W A ys.length ys ∧ ys.length ≤ c ∧ ∀ a, A = some a → B ≤ a.block ∧ a.block < W.heap.size := by
  have h1 := Kd.R_of_own (enc := Value.int .u8) (h1 := fun _ => rfl) (ok := fun _ => True) h (fun _ _ => trivial)
  obtain ⟨A1, c1, e, hl, hc⟩ := Kd.R_reads h1
  injection e with e1 e2 e3
  subst e1 e2 e3
  refine ⟨rfl, hc, hl, fun a ha => ?_⟩
  subst ha
  exact ⟨own_base h a.block rfl, own_lt h a.block rfl⟩
theorem s_See (h : SIs W o s) (t : Int) : Calls Tryz.prog 71 #[.pointer (some ⟨o.cb, 0, none⟩), .int .i64 t] W fun e W' => e = .returned (.int .i64 (s.r.clk.see t).t) ∧ SIs W' o ⟨s.line, { s.r with clk := s.r.clk.see t }⟩ ∧ Nxt o W o W' := by
  refine (c_See h.clk t).mono ?_
  rintro e W1 ⟨rfl, hci, hc⟩
  have hF : ∀ k ∈ [o.cb], o.L k = 2 := by simpa using h.lcb
  have kp := h.keep hc hF (L := o.L) (fun _ _ => rfl)
  exact ⟨rfl, ⟨kp.oth (by decide), kp.blk (by decide), hci, fun t ht => kp.line t ht (by omega) (by omega) (by omega), kp.wait (by decide), kp.ev (by decide), kp.lrb, kp.lcb, kp.lpb, kp.lq, kp.l1, fun k hk => h.new k (Nat.le_trans hc.size hk), h.left, h.evn⟩, ⟨rfl, rfl, rfl, rfl, ⟨_, hc, fun k hk _ => by rw [hF k hk]; decide⟩, fun _ _ => rfl⟩⟩

theorem append_ev {B : Nat} {ok okp : Nat → Prop} (v : Value) (xs : List QA.S42) (p : QA.S42) (cs : List Value) (ad : Addr) (c : Nat) (HO : Kd.R QA.k42 42 W B ok v xs) (hp : QA.k42.M W B okp p cs) (hokp : ∀ k, okp k → ok k ∧ some k ≠ v.ownBlock) (hfresh : ∀ k, W.heap.size ≤ k → ok k) (hnews : ∀ j u, cs[j]? = some u → W.cell? (ad.add j) = some u) (hbase : B ≤ W.heap.size) (hlen : (xs.length + 1) * 40 ≤ 140737488355328) (ty : TypeId) :
    ∃ v1 w1, (Builtin.append_ #[35, 35] ty #[v, .slice (some ad) 1 c]).run Tryz.prog W = .ok v1 w1 ∧ Kd.R QA.k42 42 w1 B ok v1 (xs ++ [p]) ∧ W.grownBy w1 v.ownBlock := by
  obtain ⟨i0, hi, hzz⟩ := Option.map_eq_some_iff.1 QA.info42
  simp only [Prod.mk.injEq] at hzz
  obtain ⟨hz0, hz1, hz2⟩ := hzz
  have hkm : xs.length + 1 ≤ 140737488355328 := Nat.le_trans (Nat.le_mul_of_pos_right _ (by decide)) hlen
  obtain ⟨h0, inner, hown, hr⟩ := HO
  have hcl := QA.k42.K_len (QA.k42.K_of_M hp)
  obtain ⟨v1, w1, hrun, h2, h3, _, h5⟩ := run_append_own_at (P := Tryz.prog) (w := W) B 35 ty 42 i0 _ QA.k42.sz 40 Tryz.underlying35 hi hz0 hz1 hz2 rfl (by decide) v xs.length inner hown ad 1 c cs (by rw [hcl, Nat.one_mul]) hnews (QA.k42.K_one (QA.k42.K_of_M hp)) (by simp only [maxLen]; omega) hlen hbase
  exact ⟨v1, w1, hrun, Kd.R_appended h0 hr hp hokp hfresh h2 h3 (h5.imp id (fun e => ⟨_, e, Nat.le_refl _⟩)), h3⟩

/-- the event that is noted: B1 the world ahead of the clone, B2 behind it -/
theorem note_mem (h : SIs V1 o s) (hb : Below V1.heap.size V1 V2) {Ac : Option Addr} {cc : Nat} {data : List Int} (hv : Kd.R (Kd.int .u8) 5 V2 V1.heap.size (fun _ => True) (.slice Ac data.length cc) data) (hlen : s.r.ev.length < 4096) (dir tm : Int) (A0 : Option Addr) (n0 c0 : Nat) (hA0 : A0 = o.ev.A) (hn0 : n0 = s.r.ev.length) (hc0 : c0 = o.ev.c) :
    ∃ (A9 : Option Addr) (m9 c9 : Nat) (w9 : World) (o' : Lo), (Builtin.append_ #[35, 35] 35 #[.slice A0 n0 c0, .slice (some ⟨V2.heap.size, 0, none⟩) 1 1]).run Tryz.prog (V2.alloc (.cells #[.int .i64 dir, .int .i64 tm, .slice Ac data.length cc] 42)) = .ok (.slice A9 m9 c9) w9 ∧
      w9.frozen? ⟨o.rb, 13, none⟩ = false ∧ (∃ u, w9.cell? ⟨o.rb, 13, none⟩ = some u) ∧ SIs (w9.setCell ⟨o.rb, 13, none⟩ (.slice A9 m9 c9)) o' ⟨s.line, { s.r with ev := s.r.ev ++ [⟨dir, tm, data⟩] }⟩ ∧ Nxt o V1 o' (w9.setCell ⟨o.rb, 13, none⟩ (.slice A9 m9 c9)) ∧ o'.wv = o.wv := by
  subst hA0 hn0 hc0
  obtain ⟨Z, hZ⟩ : ∃ Z, Z = V2.alloc (.cells #[.int .i64 dir, .int .i64 tm, .slice Ac data.length cc] 42) := ⟨_, rfl⟩
  have hbZ : Below V2.heap.size V2 Z := by rw [hZ]; exact (Below.refl _ V2).alloc (Nat.le_refl _) _
  have hnZ : Z.heap[V2.heap.size]? = some (.cells #[.int .i64 dir, .int .i64 tm, .slice Ac data.length cc] 42 (0, 0)) := by rw [hZ]; exact World.alloc_heap_new V2 _
  have hbV : Below V1.heap.size V1 Z := below_step hb hbZ
  have hsZ := hbV.size
  have hs2 := hb.size
  rw [← hZ]
  -- the events so far
  have hR : Kd.R QA.k42 42 Z 0 (fun k => (o.L k = 9 ∧ k < V1.heap.size) ∨ V1.heap.size ≤ k) (.slice o.ev.A s.r.ev.length o.ev.c) s.r.ev :=
    Kd.R_mono (Kd.R_below (Kd.R_bound h.ev) hbV) (fun k hk => .inl ⟨hk.1, hk.2.2.1⟩)
  have hob : ∀ k, (Value.slice o.ev.A s.r.ev.length o.ev.c).ownBlock = some k → o.L k = 9 ∧ k < V1.heap.size := by
    obtain ⟨h0, inner, hown, _⟩ := h.ev
    exact fun k hk => ⟨h0 k hk, own_lt hown k hk⟩
  have hM : QA.k42.M Z 0 (fun k => V1.heap.size ≤ k) ⟨dir, tm, data⟩ [.int .i64 dir, .int .i64 tm, .slice Ac data.length cc] :=
    QA.k42_mkM _ _ _ ⟨dir, tm, data⟩ (Kd.R_lower (base := V1.heap.size) (Kd.R_below (Kd.R_mono (Kd.R_bound hv) (fun k hk => hk.2.1)) hbZ) (Nat.zero_le _))
  obtain ⟨v9, w9, happ, hR9, hg9⟩ := append_ev (.slice o.ev.A s.r.ev.length o.ev.c) s.r.ev ⟨dir, tm, data⟩ _ ⟨V2.heap.size, 0, none⟩ 1 hR hM (fun k hk => ⟨.inr hk, fun e => by have := (hob k e.symm).2; omega⟩) (fun k hk => .inr (by omega)) (fun j u hu => by rw [add_plain]; exact (blk_cell hnZ j).trans (by simpa using hu)) (Nat.zero_le _) (by omega) 35
  obtain ⟨A9, c9, rfl⟩ := Kd.R_slice hR9
  have z9 := hg9.size
  -- what changed
  obtain ⟨FE, hFE⟩ : ∃ FE : List Nat, FE = (Value.slice o.ev.A s.r.ev.length o.ev.c).ownBlock.toList := ⟨_, rfl⟩
  have hFm : ∀ k, k ∈ FE → o.L k = 9 := by
    intro k hk
    rw [hFE] at hk
    exact (hob k (by simpa using hk)).1
  have hcZ : Ch FE Z w9 := ⟨hg9.os, hg9.tape, hg9.output, hg9.size, fun k hk hn => hg9.block k hk (fun e => hn (by rw [hFE, ← e]; simp))⟩
  have hc9 : Ch FE V1 w9 := (Ch.of_below hbV FE).trans hcZ (fun k hk => .inl hk)
  obtain ⟨L, hL⟩ : ∃ L : Nat → Nat, L = fun k => if V1.heap.size ≤ k ∧ k < w9.heap.size then 9 else o.L k := ⟨_, rfl⟩
  have hold : ∀ k, k < V1.heap.size → L k = o.L k := fun k hk => by rw [hL]; simp only; rw [if_neg (by omega)]
  have kp := h.keep hc9 hFm hold
  have hrb := h.lt_rb
  obtain ⟨X, hX⟩ : ∃ X, X = w9.setCell ⟨o.rb, 13, none⟩ (.slice A9 (s.r.ev ++ [(⟨dir, tm, data⟩ : QA.S42)]).length c9) := ⟨_, rfl⟩
  have hcX : Ch [o.rb] w9 X := by rw [hX]; exact (Ch.refl _ _).set (by simp) _ _
  have hcV : Ch (o.rb :: FE) V1 X := (hc9.mono (F1 := o.rb :: FE) (fun k hk => .inl (by simp [hk]))).trans hcX (fun k hk => .inl (by simp at hk; simp [hk]))
  have hlrb := kp.lrb
  have hn1 : ∀ k, L k ≠ 1 → k ∉ [o.rb] := fun k hk hm => hk (by simp at hm; rw [hm]; exact hlrb)
  refine ⟨A9, _, c9, w9, { o with ev := ⟨A9, c9⟩, L := L }, happ, blk_frozen (kp.blk (by decide)) 13, ⟨_, (blk_cell (kp.blk (by decide)) 13).trans rfl⟩, ?_, ?_, rfl⟩
  · rw [← hX]
    refine ⟨⟨hcX.cell (kp.oth (by decide)).1 (hn1 1 (by rw [kp.l1]; decide)), hcX.cell (kp.oth (by decide)).2 (hn1 1 (by rw [kp.l1]; decide))⟩, ?_, (kp.clk (by decide)).frame hcX (hn1 _ (by rw [kp.lcb]; decide)), fun t ht => (kp.line t ht (by omega) (by omega) (by omega)).frame hcX (hn1 _ (by rw [kp.lpb t ht]; omega)) (fun j hj k hk => hn1 _ (by rw [kp.lq t j ht hj k hk]; omega)), fun d hd => ?_, ?_, kp.lrb, kp.lcb, kp.lpb, kp.lq, kp.l1, fun k hk => ?_, h.left, ?_⟩
    · rw [hX]
      exact blk_set (kp.blk (by decide)) 13 _
    · obtain ⟨w1, w2, w3⟩ := kp.wait (by decide) d hd
      exact ⟨reads_ch w1 hcX (fun a ha => hn1 _ (by rw [(w3 a ha).1]; decide)), w2, fun a ha => ⟨(w3 a ha).1, Nat.lt_of_lt_of_le (w3 a ha).2 hcX.size⟩⟩
    · refine Kd.R_mono (Kd.R_move (Kd.R_bound hR9) (fun k hk => hcX.block k hk.2.2.1 (fun hm => ?_))) (fun k hk => ?_)
      · simp at hm
        subst hm
        rcases hk.1 with h1 | h1
        · rw [h.lrb] at h1; exact absurd h1.1 (by decide)
        · omega
      · show L k = 9
        rw [hL]; simp only
        rcases hk.1 with h1 | h1
        · rw [if_neg (by omega)]; exact h1.1
        · rw [if_pos ⟨h1, hk.2.2.1⟩]
    · show L k = 0
      have h1 := hcX.size
      rw [hL]; simp only
      rw [if_neg (by omega)]
      exact h.new k (by omega)
    · show (s.r.ev ++ [_]).length ≤ 4096
      rw [List.length_append, List.length_singleton]; omega
  · rw [← hX]
    exact ⟨rfl, rfl, rfl, rfl, ⟨_, hcV, fun k hk _ => by
      rcases List.mem_cons.1 hk with rfl | hk
      · rw [h.lrb]; decide
      · rw [hFm k hk]; decide⟩, hold⟩

theorem SIs.store' (h : SIs W o s) {rb : Nat} (hrb : o.rb = rb) (j : Nat) (v : Value) (r' : Rz) (wv' : Nat → Wv) (hcells : ({ o with wv := wv' } : Lo).cells r' = (o.cells s.r).setIfInBounds j v) (hclk : r'.clk = s.r.clk) (hev : r'.ev = s.r.ev)
    (hw : ∀ d, d < 2 → ReadsInt W .u8 (wv' d).A (r'.wait d).length (r'.wait d) ∧ (r'.wait d).length ≤ (wv' d).c ∧ ∀ a, (wv' d).A = some a → o.L a.block = 0 ∧ a.block < W.heap.size) (hl : r'.left ≤ 262144) :
    ∃ o', SIs (W.setCell ⟨rb, j, none⟩ v) o' ⟨s.line, r'⟩ ∧ Nxt o W o' (W.setCell ⟨rb, j, none⟩ v) ∧ o'.wv = wv' ∧ o'.ev = o.ev := by
  subst hrb
  obtain ⟨h1, h2⟩ := h.store j v r' wv' hcells hclk hev hw hl
  exact ⟨_, h1, h2, rfl, rfl⟩
theorem SIs.cell' (h : SIs W o s) {rb : Nat} {pb : Nat → Nat} (hrb : o.rb = rb) (hpb : o.pb = pb) (j : Nat) : W.cell? ⟨rb, j, none⟩ = (rcells (pb 0) (pb 1) o.cb (o.wv 0) (o.wv 1) (.slice o.ev.A s.r.ev.length o.ev.c) s.r)[j]? := by
  subst hrb hpb
  exact h.cell j
theorem SIs.free (h : SIs W o s) {rb : Nat} (hrb : o.rb = rb) (j : Nat) : W.frozen? ⟨rb, j, none⟩ = false := by
  subst hrb
  exact blk_frozen h.blk j
/-- the end of what is noted: how many bytes more, and what waits -/
theorem note_end (h : SIs W o s) {rb : Nat} (hrb : o.rb = rb) (d j : Nat) (hd : d < 2) (hj : j = 6 * d + 4) {Ay : Option Addr} {cy : Nat} {ys : List Int} (hq : ReadsInt W .u8 Ay ys.length ys) (hqL : ∀ a, Ay = some a → o.L a.block = 0 ∧ a.block < W.heap.size) (hqle : ys.length ≤ cy) (lf2 : Nat) (hl : lf2 ≤ 262144) :
    ∃ o', SIs ((W.setCell ⟨rb, 14, none⟩ (.int .i64 lf2)).setCell ⟨rb, j, none⟩ (.slice Ay ys.length cy)) o' ⟨s.line, { s.r with left := lf2, wait := upd s.r.wait d ys }⟩ ∧ Nxt o W o' ((W.setCell ⟨rb, 14, none⟩ (.int .i64 lf2)).setCell ⟨rb, j, none⟩ (.slice Ay ys.length cy)) := by
  subst hj
  obtain ⟨o1, h1, n1, w1, e1⟩ := h.store' hrb 14 (.int .i64 lf2) { s.r with left := lf2 } o.wv (by simp [Lo.cells, rcells]) rfl rfl h.wait hl
  have hrd := reads_nxt hq n1 hqL
  obtain ⟨o2, h2, n2, _⟩ := h1.store' (n1.rb.trans hrb) (6 * d + 4) (.slice Ay ys.length cy) { s.r with left := lf2, wait := upd s.r.wait d ys } (upd o1.wv d ⟨Ay, cy⟩) (by
      obtain rfl | rfl : d = 0 ∨ d = 1 := by omega
      · simp [Lo.cells, rcells, upd]
      · simp [Lo.cells, rcells, upd]) rfl rfl (fun e he => by
        by_cases hed : e = d
        · subst hed
          simp only [upd, if_true]
          exact ⟨hrd.1, hqle, hrd.2⟩
        · simp only [upd, hed, if_false]
          exact h1.wait e he) hl
  exact ⟨o2, h2, n1.trans n2⟩
/-- an end is seen -/
theorem over_set (h : SIs W o s) {rb : Nat} (hrb : o.rb = rb) (d j : Nat) (hd : d < 2) (hj : j = 6 * d + 5) :
    ∃ o', SIs (W.setCell ⟨rb, j, none⟩ (.bool true)) o' ⟨s.line, { s.r with over := upd s.r.over d true }⟩ ∧ Nxt o W o' (W.setCell ⟨rb, j, none⟩ (.bool true)) := by
  subst hj
  obtain ⟨o1, h1, n1, w1, e1⟩ := h.store' hrb (6 * d + 5) (.bool true) { s.r with over := upd s.r.over d true } o.wv (by
      obtain rfl | rfl : d = 0 ∨ d = 1 := by omega
      · simp [Lo.cells, rcells, upd]
      · simp [Lo.cells, rcells, upd]) rfl rfl h.wait h.left
  exact ⟨o1, h1, n1⟩
theorem note_call {Ay : Option Addr} {cy : Nat} {ys : List Int} (h : SIs W o s) (hq : ReadsInt W .u8 Ay ys.length ys) (hqle : ys.length ≤ cy) (hl : ys.length ≤ 262144) (hev : s.r.ev.length < 4096) (dir tm : Int) (A0 : Option Addr) (el c0 rb : Nat) (hA0 : A0 = o.ev.A) (hel : el = s.r.ev.length) (hc0 : c0 = o.ev.c) (hrb : rb = o.rb) :
    Calls Tryz.prog 38 #[.slice Ay ys.length cy] W fun e V4 => ∃ (Ac : Option Addr) (cc : Nat) (A9 : Option Addr) (m9 c9 : Nat) (w9 : World) (o2 : Lo), e = .returned (.slice Ac ys.length cc) ∧ V4.cell? ⟨rb, 13, none⟩ = some (.slice A0 el c0) ∧ (V4.alloc (.cells #[.int .i64 dir, .int .i64 tm, .slice Ac ys.length cc] 42)).cell? ⟨rb, 13, none⟩ = some (.slice A0 el c0) ∧
      (Builtin.append_ #[35, 35] 35 #[.slice A0 el c0, .slice (some ⟨V4.heap.size, 0, none⟩) 1 1]).run Tryz.prog (V4.alloc (.cells #[.int .i64 dir, .int .i64 tm, .slice Ac ys.length cc] 42)) = .ok (.slice A9 m9 c9) w9 ∧ w9.frozen? ⟨rb, 13, none⟩ = false ∧ (∃ u, w9.cell? ⟨rb, 13, none⟩ = some u) ∧
      SIs (w9.setCell ⟨rb, 13, none⟩ (.slice A9 m9 c9)) o2 ⟨s.line, { s.r with ev := s.r.ev ++ [⟨dir, tm, ys⟩] }⟩ ∧ Nxt o W o2 (w9.setCell ⟨rb, 13, none⟩ (.slice A9 m9 c9)) ∧ o2.wv = o.wv := by
  refine (QA.bytes_Clone.calls 0 Ay cy ys ys W (Kd.C_of_reads hq) hqle (if_pos (by omega))).mono ?_
  rintro e V4 ⟨v0, rfl, hR4, hb4⟩
  obtain ⟨Ac, cc, rfl⟩ := Kd.R_slice hR4
  have hx : W.cell? ⟨rb, 13, none⟩ = some (.slice A0 el c0) := by
    have := h.cell 13
    rw [hrb, this, hA0, hel, hc0]; rfl
  have hx4 := pw_cell_below hb4 hx
  subst hrb
  obtain ⟨A9, m9, c9, w9, o2, happ, hfr, hu, hs9, hn9, hwv9⟩ := note_mem h hb4 hR4 hev dir tm A0 el c0 hA0 hel hc0
  exact ⟨Ac, cc, A9, m9, c9, w9, o2, rfl, hx4, pw_cell_below (below_alloc (Below.refl _ V4) _) hx4, happ, hfr, hu, hs9, hn9, hwv9⟩
def Sz.blocked (s : Sz) (d : Nat) (n : Int) : Bool := decide (0 < (s.r.wait d).length) || s.r.over d || s.r.over 0 || decide (n < 1) || decide (s.r.ev.length = 4096)
def Sz.most (s : Sz) (n : Int) : Int := min (min n 65536) (s.r.left : Int)
def Sz.got (s : Sz) (d : Nat) (n : Int) : List Int := (s.src d).take (s.most n)
def Sz.took (s : Sz) (d : Nat) (n : Int) : Sz := s.turn (1 - d) d ((s.src d).drop (s.most n))
def Sz.note (s : Sz) (d : Nat) (t : Int) (ys : List Int) : Sz := ⟨s.line, { s.r with wait := upd s.r.wait d ys, clk := s.r.clk.see t, ev := s.r.ev ++ [⟨(d : Int), (s.r.clk.see t).t, ys⟩], left := s.r.left - ys.length }⟩
def Sz.shut (s : Sz) (d : Nat) : Sz := ⟨(s.turn d d (s.dst d).end_).line, { s.r with over := upd s.r.over d true }⟩
def Sz.read (s : Sz) (d : Nat) (n t : Int) : Sz :=
  if s.blocked d n then s else if s.got d n = [] then if ((s.took d n).src d).over then (s.took d n).shut d else s.took d n else (s.took d n).note d t (s.got d n)
theorem read_block {d : Nat} {n t : Int} (h : true = s.blocked d n) : s.read d n t = s := by unfold Sz.read; rw [if_pos h.symm]
theorem read_note {d : Nat} {n t : Int} {ys : List Int} {s1 : Sz} {lf2 : Nat} (h : false = s.blocked d n) (hg : s.got d n = ys) (hp : 0 < ys.length) (h1 : s1 = s.took d n) (hl : lf2 = s1.r.left - ys.length) :
    s.read d n t = ⟨s1.line, { s1.r with wait := upd s1.r.wait d ys, clk := s1.r.clk.see t, ev := s1.r.ev ++ [⟨(d : Int), (s1.r.clk.see t).t, ys⟩], left := lf2 }⟩ := by
  unfold Sz.read
  rw [if_neg (by rw [← h]; decide), hg, if_neg (by rintro rfl; exact absurd hp (by decide)), ← h1, hl]
  rfl
theorem read_none {d : Nat} {n t : Int} {s1 : Sz} (h : false = s.blocked d n) (hg : s.got d n = []) (h1 : s1 = s.took d n) (ho : false = (s1.src d).over) : s.read d n t = s1 := by
  unfold Sz.read
  rw [if_neg (by rw [← h]; decide), if_pos hg, ← h1, if_neg (by rw [← ho]; decide)]
theorem read_shut {d : Nat} {n t : Int} {s1 : Sz} (h : false = s.blocked d n) (hg : s.got d n = []) (h1 : s1 = s.took d n) (ho : true = (s1.src d).over) : s.read d n t = s1.shut d := by
  unfold Sz.read
  rw [if_neg (by rw [← h]; decide), if_pos hg, ← h1, if_pos ho.symm]
end
end Go.Proofs.YtbdknddgfmoipaaGreatDoor.TQ
