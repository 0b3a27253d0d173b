import Derived.RangeFuncNested
import Derived.RangeFuncBound
import Derived.RangeFuncCalls
import Derived.RangeFuncLeaves
import Derived.Shelf.Abstract
import Derived.Shelf.RegionOpen
import Derived.WalkKit
import Derived.OwnWalkIn
import Derived.TacticsInMore
import Derived.LoopNIn
import Derived.LoopIn
import Derived.Maps.AppendAt
import Derived.StillTailTactics
import Derived.Lib.Hide
import Derived.Lib.LazyBuf
import Derived.Outline
import Derived.Deep.RegionWith
import Derived.Deep.RegionLaw
import Derived.Deep.RegionHeld3
import Derived.Deep.CutBlock
import Derived.Deep.AppendLies
import Derived.Deep.DeepCutAuto
import Derived.Lib.Bytes
import Derived.Lib.SmallJoins
import Derived.Laws.EntriesVeiled
import Derived.BigRegion
import Derived.BigQuiet
import Derived.CallsIn
import Derived.Test.YtbdknddgfmoipaaGreatDoorProg
import Derived.Test.YtbdknddgfmoipaaGreatDoorZW
import Derived.Test.YtbdknddgfmoipaaGreatDoorZT3
set_option linter.unusedVariables false
set_option linter.unusedSimpArgs false
namespace Go.Proofs.YtbdknddgfmoipaaGreatDoor.TQ
open Go.RowKit Go.Shelf Go.Proofs.YtbdknddgfmoipaaGreatDoorW.PrintWords Go.Proofs.YtbdknddgfmoipaaGreatDoorW.PrintLast Go.Proofs.YtbdknddgfmoipaaGreatDoorW.PrintMore
set_option linter.unusedVariables false
set_option linter.unusedSimpArgs false


section
variable {F F1 : List Nat} {W W1 W2 W' : World} {o o' : Lo} {s : Sz}
def Sz.step (s : Sz) (kind n t : Int) : Sz := if kind = 0 then s.read 1 n t else if kind = 1 then s.read 0 n t else if kind = 2 then s.write 1 n else if kind = 3 then s.write 0 n else s
set_option maxRecDepth 100000 in
set_option maxHeartbeats 1000000 in
theorem r_Step (h : SIs W o s) (kind n t : Int) : Calls Tryz.prog 26 #[.pointer (some ⟨o.rb, 0, none⟩), .int .i64 kind, .int .i64 n, .int .i64 t] W fun e W' => ∃ v o', e = .returned v ∧ SIs W' o' (s.step kind n t) ∧ Nxt o W o' W' := by
  by_cases k0 : kind = 0
  · subst k0
    have HR := Lib.hid (show Calls Tryz.prog 47 #[.pointer (some ⟨o.rb, 0, none⟩), .int .i64 1, .int .i64 n, .int .i64 t] W fun e W' => ∃ v o', e = .returned v ∧ SIs W' o' (s.step 0 n t) ∧ Nxt o W o' W' from r_read1 h n t)
    clear h
    go_enter Tryz.func26, Tryz.ntmps26
    go_wp2_with (go_at_call 47; (with_reducible refine HR.out.mono ?_); rintro e W1 ⟨v, o1, rfl, hs, hn⟩; have HS := Lib.hid hs; have HN := Lib.hid hn; clear hs hn)
    go_ret
    first
      | exact ⟨⟨_, rfl⟩, o1, HS.out, HN.out⟩
      | exact ⟨_, o1, rfl, HS.out, HN.out⟩
  by_cases k1 : kind = 1
  · subst k1
    have HR := Lib.hid (show Calls Tryz.prog 47 #[.pointer (some ⟨o.rb, 0, none⟩), .int .i64 0, .int .i64 n, .int .i64 t] W fun e W' => ∃ v o', e = .returned v ∧ SIs W' o' (s.step 1 n t) ∧ Nxt o W o' W' from r_read0 h n t)
    clear h
    go_enter Tryz.func26, Tryz.ntmps26
    go_wp2_with (go_at_call 47; (with_reducible refine HR.out.mono ?_); rintro e W1 ⟨v, o1, rfl, hs, hn⟩; have HS := Lib.hid hs; have HN := Lib.hid hn; clear hs hn)
    go_ret
    first
      | exact ⟨⟨_, rfl⟩, o1, HS.out, HN.out⟩
      | exact ⟨_, o1, rfl, HS.out, HN.out⟩
  by_cases k2 : kind = 2
  · subst k2
    have HR := Lib.hid (show Calls Tryz.prog 48 #[.pointer (some ⟨o.rb, 0, none⟩), .int .i64 1, .int .i64 n] W fun e W' => ∃ v o', e = .returned v ∧ SIs W' o' (s.step 2 n t) ∧ Nxt o W o' W' from r_write1 h n)
    clear h
    go_enter Tryz.func26, Tryz.ntmps26
    go_wp2_with (go_at_call 48; (with_reducible refine HR.out.mono ?_); rintro e W1 ⟨v, o1, rfl, hs, hn⟩; have HS := Lib.hid hs; have HN := Lib.hid hn; clear hs hn)
    go_ret
    first
      | exact ⟨⟨_, rfl⟩, o1, HS.out, HN.out⟩
      | exact ⟨_, o1, rfl, HS.out, HN.out⟩
  by_cases k3 : kind = 3
  · subst k3
    have HR := Lib.hid (show Calls Tryz.prog 48 #[.pointer (some ⟨o.rb, 0, none⟩), .int .i64 0, .int .i64 n] W fun e W' => ∃ v o', e = .returned v ∧ SIs W' o' (s.step 3 n t) ∧ Nxt o W o' W' from r_write0 h n)
    clear h
    go_enter Tryz.func26, Tryz.ntmps26
    go_wp2_with (go_at_call 48; (with_reducible refine HR.out.mono ?_); rintro e W1 ⟨v, o1, rfl, hs, hn⟩; have HS := Lib.hid hs; have HN := Lib.hid hn; clear hs hn)
    go_ret
    first
      | exact ⟨⟨_, rfl⟩, o1, HS.out, HN.out⟩
      | exact ⟨_, o1, rfl, HS.out, HN.out⟩
  · have b0 : (kind == 0) = false := beq_eq_false_iff_ne.mpr k0
    have b1 : (kind == 1) = false := beq_eq_false_iff_ne.mpr k1
    have b2 : (kind == 2) = false := beq_eq_false_iff_ne.mpr k2
    have b3 : (kind == 3) = false := beq_eq_false_iff_ne.mpr k3
    have HE := Lib.hid (show s.step kind n t = s by unfold Sz.step; rw [if_neg k0, if_neg k1, if_neg k2, if_neg k3])
    have HH := Lib.hid h
    clear h
    go_enter Tryz.func26, Tryz.ntmps26
    go_wp2
    go_ret
    first
      | exact ⟨⟨_, rfl⟩, o, by rw [HE.out]; exact HH.out, Nxt.refl _ _⟩
      | exact ⟨_, o, rfl, by rw [HE.out]; exact HH.out, Nxt.refl _ _⟩
      | exact ⟨o, by rw [HE.out]; exact HH.out, Nxt.refl _ _⟩
end
end Go.Proofs.YtbdknddgfmoipaaGreatDoor.TQ
namespace Go.Proofs.YtbdknddgfmoipaaGreatDoor.TQ
open Go.RowKit Go.Shelf Go.Proofs.YtbdknddgfmoipaaGreatDoorW.PrintWords Go.Proofs.YtbdknddgfmoipaaGreatDoorW.PrintLast Go.Proofs.YtbdknddgfmoipaaGreatDoorW.PrintMore
set_option linter.unusedVariables false
set_option linter.unusedSimpArgs false


section
variable {F F1 : List Nat} {W W1 W2 W' : World} {o o' : Lo} {s : Sz}
/-- the transcript under way: its block T, the result's block B -/
structure Tr (W0 W : World) (B T : Nat) (v : Value) (ov : Bool) (l : List QA.S42) : Prop where
  res : W.heap[B]? = some (.cells #[.slice none 0 0, .bool false] 37 (0, 0))
  blk : W.heap[T]? = some (.cells #[v, .bool ov] 37 (0, 0))
  row : Kd.R QA.k42 42 W W0.heap.size (fun _ => True) v l
  bel : Below W0.heap.size W0 W
  geB : W0.heap.size ≤ B
  ltT : B < T
theorem results_cell1 {fn : Func} {p : Tmp} {ty : TypeId} (h : fn.results = #[.cell p ty]) (tmps : Array Value) (P : Program) (w : World) (a : Addr) (v : Value) (ha : tmps.getD p undef = .pointer (some a)) (hl : (loadVar ty a).run P w = .ok v w) :
    (results fn tmps).run P w = .ok v w := by
  have hp' : tmps[p]?.getD undef = .pointer (some a) := by simpa using ha
  simp [results, h, hp', asAddr, hl]
theorem list_append_run {P : Program} {ops : Array Oper} {rest : List Oper} {o : Oper} {a : Act} {W : World} {Q : Exit → Act → World → Prop} (hg : o.guard = none) (s x : Operand) (t : TypeId)
    (ho : o.op = .call { callee := .builtin .append, args := #[s, x], argTypes := #[t, t] }) (vs vx : Value) (hs : a.eval s = vs) (hx : a.eval x = vx) (v1 : Value) (w1 : World) (hr : (Builtin.append_ #[t, t] o.type #[vs, vx]).run P W = .ok v1 w1)
    (h : wpList P ops Q rest (a.put o.dst v1) w1) : wpList P ops Q (o :: rest) a W := by
  refine wpList_plain hg fun K hK => ?_
  unfold Oper.wp execOp
  simp only [ho, resolve, invoke, builtin, Sem.run_bind, Sem.run_pure, Result.andThen_ok, List.map_toArray, List.map_cons, List.map_nil, hs, hx, hr]
  exact hK _ _ h
theorem Tr.move {W0 W W1 : World} {B T : Nat} {v : Value} {ov : Bool} {l : List QA.S42} (h : Tr W0 W B T v ov l) (hb : Below W.heap.size W W1) : Tr W0 W1 B T v ov l :=
  ⟨(Ch.of_below hb []).heap h.res (by simp), (Ch.of_below hb []).heap h.blk (by simp), Kd.R_below h.row hb, below_step h.bel hb, h.geB, h.ltT⟩
/-- one event more: E the round's event, w3 the world behind the clone -/
theorem tr_mem {W0 w1 w3 : World} {B T : Nat} {v : Value} {ov : Bool} {l : List QA.S42} (h : Tr W0 w1 B T v ov l) {f0 f1 : Int} {data : List Int} {Ae Ac : Option Addr} {ne ce cc n : Nat} (hl : l.length ≤ 262144) (hn : n = data.length)
    (hb : Below (w1.alloc (.cells #[.int .i64 f0, .int .i64 f1, .slice Ae ne ce] 42)).heap.size (w1.alloc (.cells #[.int .i64 f0, .int .i64 f1, .slice Ae ne ce] 42)) w3) (hv : Kd.R (Kd.int .u8) 5 w3 (w1.alloc (.cells #[.int .i64 f0, .int .i64 f1, .slice Ae ne ce] 42)).heap.size (fun _ => True) (.slice Ac n cc) data) :
    w3.frozen? ⟨w1.heap.size, 2, none⟩ = false ∧ w3.cell? ⟨w1.heap.size, 2, none⟩ = some (.slice Ae ne ce) ∧
    ∃ w4, w4 = w3.setCell ⟨w1.heap.size, 2, none⟩ (.slice Ac n cc) ∧ w4.cell? ⟨w1.heap.size, 0, none⟩ = some (.int .i64 f0) ∧ w4.cell? ⟨w1.heap.size, 1, none⟩ = some (.int .i64 f1) ∧ w4.cell? ⟨w1.heap.size, 2, none⟩ = some (.slice Ac n cc) ∧ w4.cell? ⟨T, 0, none⟩ = some v ∧
    ∃ A9 m9 c9 w9, (Builtin.append_ #[35, 35] 35 #[v, .slice (some ⟨w4.heap.size, 0, none⟩) 1 1]).run Tryz.prog (w4.alloc (.cells #[.int .i64 f0, .int .i64 f1, .slice Ac n cc] 42)) = .ok (.slice A9 m9 c9) w9 ∧ w9.frozen? ⟨T, 0, none⟩ = false ∧ (∃ u, w9.cell? ⟨T, 0, none⟩ = some u) ∧
      Tr W0 (w9.setCell ⟨T, 0, none⟩ (.slice A9 m9 c9)) B T (.slice A9 m9 c9) ov (l ++ [⟨f0, f1, data⟩]) := by
  subst hn
  obtain ⟨w2, hw2⟩ : ∃ w2, w2 = w1.alloc (.cells #[.int .i64 f0, .int .i64 f1, .slice Ae ne ce] 42) := ⟨_, rfl⟩
  have hb2 : Below w1.heap.size w1 w2 := by rw [hw2]; exact below_alloc (Below.refl _ _) _
  have hE : w2.heap[w1.heap.size]? = some (.cells #[.int .i64 f0, .int .i64 f1, .slice Ae ne ce] 42 (0, 0)) := by rw [hw2]; exact World.alloc_heap_new w1 _
  have hs2 : w2.heap.size = w1.heap.size + 1 := by rw [hw2]; simp
  rw [← hw2] at hb hv
  have hE3 := (Ch.of_below hb []).heap hE (by simp)
  have h3 := (h.move hb2).move hb
  have z3 := hb.size
  have z1 := h.bel.size
  have ltT := lt_of_heap h.blk
  refine ⟨blk_frozen hE3 2, (blk_cell hE3 2).trans rfl, _, rfl, ?_⟩
  obtain ⟨w4, hw4⟩ : ∃ w4, w4 = w3.setCell ⟨w1.heap.size, 2, none⟩ (.slice Ac data.length cc) := ⟨_, rfl⟩
  have hE4 : w4.heap[w1.heap.size]? = some (.cells #[.int .i64 f0, .int .i64 f1, .slice Ac data.length cc] 42 (0, 0)) := by rw [hw4]; exact blk_set hE3 2 _
  have hc4 : Ch [w1.heap.size] w3 w4 := by rw [hw4]; exact (Ch.refl _ _).set (by simp) _ _
  have hrow1 : Kd.R QA.k42 42 w3 W0.heap.size (fun k => k < w1.heap.size) v l := Kd.R_below (Kd.R_below (Kd.R_mono (Kd.R_bound h.row) (fun k hk => hk.2.2.1)) hb2) hb
  have h4 : Tr W0 w4 B T v ov l := ⟨hc4.heap h3.res (by have := h.ltT; simp; omega), hc4.heap h3.blk (by simp; omega), Kd.R_mono (Kd.R_step hrow1 (fun k hk hk2 => hc4.block k hk2 (by simp; omega))) (fun _ _ => trivial), h3.bel.trans (hc4.below (h3.bel.size) (by simpa using z1)), h.geB, h.ltT⟩
  rw [← hw4]
  refine ⟨(blk_cell hE4 0).trans rfl, (blk_cell hE4 1).trans rfl, (blk_cell hE4 2).trans rfl, (blk_cell h4.blk 0).trans rfl, ?_⟩
  have hv4 : Kd.R (Kd.int .u8) 5 w4 w2.heap.size (fun _ => True) (.slice Ac data.length cc) data := Kd.R_mono (Kd.R_step (Kd.R_bound hv) (fun k hk hk2 => hc4.block k hk2 (by have := hk.2.1; simp; omega))) (fun _ _ => trivial)
  obtain ⟨Z, hZ⟩ : ∃ Z, Z = w4.alloc (.cells #[.int .i64 f0, .int .i64 f1, .slice Ac data.length cc] 42) := ⟨_, rfl⟩
  have hbZ : Below w4.heap.size w4 Z := by rw [hZ]; exact below_alloc (Below.refl _ _) _
  have hnZ : Z.heap[w4.heap.size]? = some (.cells #[.int .i64 f0, .int .i64 f1, .slice Ac data.length cc] 42 (0, 0)) := by rw [hZ]; exact World.alloc_heap_new w4 _
  have hZs := hbZ.size
  have h4s := hc4.size
  rw [← hZ]
  have h5 := h4.move hbZ
  have hob : ∀ k, v.ownBlock = some k → k < w1.heap.size := by
    obtain ⟨h0, inner, hown, _⟩ := h.row
    exact fun k hk => own_lt hown k hk
  have hobT : ∀ k, v.ownBlock = some k → k ≠ T := by
    intro k hk e
    subst e
    obtain ⟨inner, hown⟩ := Kd.R_own h.row
    obtain ⟨cc1, h1⟩ := own_typed hown k hk
    have h2 := h.blk
    rw [h1] at h2
    injection h2 with h2
    injection h2 with _ h2
    exact absurd h2 (by decide)
  have hobB : ∀ k, v.ownBlock = some k → k ≠ B := by
    intro k hk e
    subst e
    obtain ⟨inner, hown⟩ := Kd.R_own h.row
    obtain ⟨cc1, h1⟩ := own_typed hown k hk
    have h2 := h.res
    rw [h1] at h2
    injection h2 with h2
    injection h2 with _ h2
    exact absurd h2 (by decide)
  have hM : QA.k42.M Z W0.heap.size (fun k => w2.heap.size ≤ k) ⟨f0, f1, data⟩ [.int .i64 f0, .int .i64 f1, .slice Ac data.length cc] :=
    QA.k42_mkM _ _ _ ⟨f0, f1, data⟩ (Kd.R_lower (base := w2.heap.size) (Kd.R_below (Kd.R_mono (Kd.R_bound hv4) (fun k hk => hk.2.1)) hbZ) (by have := hb2.size; omega))
  obtain ⟨v9, w9, happ, hR9, hg9⟩ := append_ev v l ⟨f0, f1, data⟩ _ ⟨w4.heap.size, 0, none⟩ 1 h5.row hM (fun k hk => ⟨trivial, fun e => by have := hob k e.symm; omega⟩) (fun _ _ => trivial) (fun j u hu => by rw [add_plain]; exact (blk_cell hnZ j).trans (by simpa using hu)) h5.bel.size (by omega) 35
  obtain ⟨A9, c9, rfl⟩ := Kd.R_slice hR9
  have hT9 : w9.heap[T]? = some (.cells #[v, .bool ov] 37 (0, 0)) := (hg9.block T (lt_of_heap h5.blk) (fun e => hobT T e.symm rfl)).trans h5.blk
  have hB9 : w9.heap[B]? = some (.cells #[.slice none 0 0, .bool false] 37 (0, 0)) := (hg9.block B (lt_of_heap h5.res) (fun e => hobB B e.symm rfl)).trans h5.res
  have hbel9 := h5.bel.grown hg9 h5.bel.size (fun k hk => by obtain ⟨inner, hown⟩ := Kd.R_own h.row; exact own_base hown k hk)
  refine ⟨A9, _, c9, w9, happ, blk_frozen hT9 0, ⟨_, (blk_cell hT9 0).trans rfl⟩, ⟨?_, blk_set hT9 0 _, ?_, ?_, h.geB, h.ltT⟩⟩
  · exact ((Ch.refl [T] w9).set (by simp) 0 (.slice A9 _ c9)).heap hB9 (by have := h.ltT; simp; omega)
  · exact Kd.R_set hR9 hT9 (by decide) 0 _
  · exact hbel9.setCell (p := ⟨T, 0, none⟩) (by have := h.geB; have := h.ltT; show W0.heap.size ≤ T; omega) _
set_option maxRecDepth 100000 in
set_option maxHeartbeats 1000000 in
theorem r_Transcript (h : SIs W o s) (hsm : ∀ x ∈ s.r.ev, x.f2.length ≤ 140737488355328) : Calls Tryz.prog 31 #[.pointer (some ⟨o.rb, 0, none⟩)] W fun e W' => ∃ A c, e = .returned (.agg #[.slice A s.r.ev.length c, .bool (s.r.over 0)]) ∧ Kd.R QA.k42 42 W' W.heap.size (fun _ => True) (.slice A s.r.ev.length c) s.r.ev ∧ Below W.heap.size W W' := by
  obtain ⟨ov, hov⟩ : ∃ ov, ov = s.r.over 0 := ⟨_, rfl⟩
  obtain ⟨l, hl⟩ : ∃ l, l = s.r.ev := ⟨_, rfl⟩
  have hev := h.ev
  have hn := h.evn
  obtain ⟨A0, c0, he, hlc, hC⟩ := Kd.R_reads hev
  injection he with he1 he2 he3
  have cz : W.cell? ⟨o.rb, 5, none⟩ = some (.bool ov) := by rw [hov]; exact h.cell 5
  have c13 : W.cell? ⟨o.rb, 13, none⟩ = some (.slice A0 l.length c0) := by rw [h.cell 13, hl, ← he1, ← he3]; rfl
  rw [← hl] at hn hlc hC
  rw [← hov, ← hl]
  have HC := Lib.hid hC
  have HN := Lib.hid hn
  have HLC := Lib.hid hlc
  have HSM := Lib.hid (show ∀ x ∈ l, x.f2.length ≤ 140737488355328 by rw [hl]; exact hsm)
  have y5 := pw_cell_below (below_alloc (Below.refl _ W) (.cells #[.slice none 0 0, .bool false] 37)) cz
  have y13 := pw_cell_below (below_alloc (Below.refl _ W) (.cells #[.slice none 0 0, .bool false] 37)) c13
  have yb := World.alloc_heap_new W (.cells #[.slice none 0 0, .bool false] 37)
  have ys := show (W.alloc (.cells #[.slice none 0 0, .bool false] 37)).heap.size = W.heap.size + 1 by simp
  have yB := below_alloc (Below.refl _ W) (.cells #[.slice none 0 0, .bool false] 37)
  have Y13 := Lib.hid y13
  have YB := Lib.hid yb
  have YS := Lib.hid ys
  have YL := Lib.hid yB
  clear h hsm hev hn he1 he2 he3 hlc hC hov hl cz c13 y13 yb ys yB
  go_enter Tryz.func31, Tryz.ntmps31
  go_upto_region 3 with (fail)
  go_upto_region 4 with (fail)
  have htr : Tr W ((W.alloc (.cells #[.slice none 0 0, .bool false] 37)).alloc (.cells #[.slice none 0 0, .bool ov] 37)) W.heap.size (W.heap.size + 1) (.slice none 0 0) ov [] := by
    have h1 := below_alloc (Below.refl _ (W.alloc (.cells #[.slice none 0 0, .bool false] 37))) (.cells #[.slice none 0 0, .bool ov] 37)
    refine ⟨(Ch.of_below h1 []).heap YB.out (by simp), by rw [← YS.out]; exact World.alloc_heap_new _ _, Kd.R_nil _ _ _ _ _, below_step YL.out h1, Nat.le_refl _, by omega⟩
  have x13 := pw_cell_below (below_alloc (Below.refl _ (W.alloc (.cells #[.slice none 0 0, .bool false] 37))) (.cells #[.slice none 0 0, .bool ov] 37)) Y13.out
  have HTR := Lib.hid htr
  clear htr y5
  generalize (W.alloc (.cells #[.slice none 0 0, .bool false] 37)).alloc (.cells #[.slice none 0 0, .bool ov] 37) = W1 at HTR x13 ⊢
  go_wp2
  go_loopg [21] (l.length + 1) (fun kq v21 w1 => ∃ (j : Nat) (v : Value), v21 = .int .i64 j ∧ Aside0 (j ≤ l.length ∧ kq = l.length + 1 - j) ∧ Aside0 (Tr W w1 W.heap.size (W.heap.size + 1) v ov (l.take j)))
  case atStart => exact ⟨0, _, rfl, ⟨Nat.zero_le _, rfl⟩, ⟨HTR.out⟩⟩
  case round =>
    obtain ⟨j, v, rfl, HJ, HT⟩ := hrel
    by_cases hj : j < l.length
    · have hjd : decide ((j : Int) < (l.length : Int)) = true := decide_eq_true (by omega)
      have hjd2 := eq_true hj
      have hwj : wrap64 ((j : Int) + 1) = ((j + 1 : Nat) : Int) := (IntWalk.i64_left _).symm.trans (by rw [IntKind.wrap_i64]; have := HN.out; omega)
      have hCw := Kd.C_below HC.out HT.out.bel
      obtain ⟨ad, A2, c2, rfl, e0, e1, e2, hle2, hC2⟩ := QA.at_T42 hCw (j : Int) (by omega) (by omega)
      rw [Int.toNat_natCast] at e0 e1 e2
      obtain ⟨ev, hev⟩ : ∃ ev, ev = QA.rd_T42 l (j : Int) := ⟨_, rfl⟩
      rw [← hev] at e0 e1 e2 hle2 hC2
      have htk : l.take (j + 1) = l.take j ++ [ev] := by
        rw [List.take_add_one, hev]
        unfold QA.rd_T42
        simp [List.getD_eq_getElem?_getD, List.getElem?_eq_getElem hj]
      obtain ⟨f0, f1, data⟩ := ev
      obtain ⟨ne, hne⟩ : ∃ ne, ne = data.length := ⟨_, rfl⟩
      simp only at e0 e1 e2 hle2 hC2
      rw [← hne] at e2
      have HTK := Lib.hid htk
      have HDL := Lib.hid (show data.length ≤ 140737488355328 from HSM.out ⟨f0, f1, data⟩ (by rw [hev]; unfold QA.rd_T42; simp [List.getD_eq_getElem?_getD, List.getElem?_eq_getElem hj]))
      have hcl := QA.bytes_Clone.calls 0 A2 c2 data data (wr.alloc (.cells #[.int .i64 f0, .int .i64 f1, .slice A2 ne c2] 42)) (Kd.C_below hC2 (below_alloc (Below.refl _ _) _)) hle2 (if_pos HDL.out)
      rw [← hne] at hcl
      have HCL := Lib.hid hcl
      have HNE := Lib.hid hne
      have hE := World.alloc_heap_new wr (.cells #[.int .i64 f0, .int .i64 f1, .slice A2 ne c2] 42)
      have g2 := (blk_cell hE 2).trans rfl
      have hlt := lt_of_heap HT.out.blk
      have HLT := Lib.hid (show l.length ≤ 262144 by have := HN.out; omega)
      have HAD := Lib.hid hCw
      clear hCw hC2 hle2 hev htk hcl hne hE hlt
      go_upto_region 8 with (go_at_call 38; (with_reducible refine HCL.out.mono ?_); (rintro e w3 ⟨v0, rfl, hv, hb⟩); (obtain ⟨Ac, cc, rfl⟩ := Kd.R_slice hv); rw [← HNE.out] at hv ⊢; (obtain ⟨k1, k2, w4, hw4, k3, k4, k5, k6, A9, m9, c9, w9, happ, k7, ⟨u9, k8⟩, ht9⟩ := tr_mem HT.out (n := ne) (by rw [List.length_take]; have := HLT.out; omega) HNE.out hb hv); have HW4 := Lib.hid hw4; have HT9 := Lib.hid ht9; clear hw4 ht9 hv hb)
      rw [← HW4.out]
      clear k1 k2 HW4 e0 e1 e2 g2 HCL
      go_wp2_with (at_builtin; refine list_append_run rfl (.tmp 30) (.tmp 32) 35 rfl _ _ rfl rfl _ _ happ ?_)
      go_roundg (l.length - j)
      case measure => have := HJ.out; omega
      case rel => exact ⟨j + 1, _, by rw [hwj], ⟨by omega, by have := HJ.out; omega⟩, ⟨by rw [HTK.out]; exact HT9.out⟩⟩
    · have hjd : decide ((j : Int) < (l.length : Int)) = false := decide_eq_false (by omega)
      have hjd2 := eq_false hj
      have hje : j = l.length := by have := HJ.out; omega
      have hfin := HT.out
      rw [hje, List.take_length] at hfin
      obtain ⟨Av, cv, rfl⟩ := Kd.R_slice hfin.row
      have HF := Lib.hid hfin
      have b0 := (blk_cell hfin.blk 0).trans rfl
      have b1 := (blk_cell hfin.blk 1).trans rfl
      have r0 := (blk_cell hfin.res 0).trans rfl
      have r1 := (blk_cell hfin.res 1).trans rfl
      have fr0 := blk_frozen hfin.res 0
      have fr1 := blk_frozen hfin.res 1
      clear hfin hje
      have HB := Lib.hid (blk_set (blk_set HF.out.res 0 (.slice Av l.length cv)) 1 (.bool ov))
      have q0 := (blk_cell HB.out 0).trans rfl
      have q1 := (blk_cell HB.out 1).trans rfl
      go_wp2
      have hF := HF.out
      have hR := Kd.R_set (Kd.R_set hF.row hF.res (by decide) 0 (.slice Av l.length cv)) (blk_set hF.res 0 _) (by decide) 1 (.bool ov)
      have hB := (hF.bel.setCell (p := ⟨W.heap.size, 0, none⟩) (Nat.le_refl _) (.slice Av l.length cv)).setCell (p := ⟨W.heap.size, 1, none⟩) (Nat.le_refl _) (.bool ov)
      clear b0 b1 r0 r1 fr0 fr1 q0 q1 hF HF HT
      generalize (wr.setCell ⟨W.heap.size, 0, none⟩ (.slice Av l.length cv)).setCell ⟨W.heap.size, 1, none⟩ (.bool ov) = Y at HB hR hB ⊢
      (try simp only [Exit.inBlock, Exit.then])
      refine bodyPost_ret (results_cell1 rfl _ _ _ ⟨W.heap.size, 0, none⟩ _ rfl (run_loadVar_row (P := Tryz.prog) Y W.heap.size 37 37 _ (0, 0) _ HB.out Tryz.underlying37 rfl (by kernel_rfl))) rfl ?_
      exact ⟨Av, cv, rfl, hR, hB⟩
end
end Go.Proofs.YtbdknddgfmoipaaGreatDoor.TQ
namespace Go.Proofs.YtbdknddgfmoipaaGreatDoor.TQ
open Go.RowKit Go.Shelf Go.Proofs.YtbdknddgfmoipaaGreatDoorW.PrintWords Go.Proofs.YtbdknddgfmoipaaGreatDoorW.PrintLast Go.Proofs.YtbdknddgfmoipaaGreatDoorW.PrintMore
set_option linter.unusedVariables false
set_option linter.unusedSimpArgs false


section
variable {F F1 : List Nat} {W W0 W1 W2 W' V : World} {o o' : Lo} {s : Sz}
def p0 (m : Nat) : Pz := ⟨fun _ => ⟨[], m, false⟩⟩
def s0 (m : Nat) : Sz := ⟨fun _ => p0 m, r0⟩
theorem sys_new {m pa pc cb rb S0 S1 S2 : Nat} {Fa Fc : Nat → List Nat} {ba bc : Nat → Nat} (ho : Oth V) (h1 : 1 < S0) (hp0 : PIs V pa Fa (p0 m) ba) (hp1 : PIs V pc Fc (p0 m) bc)
    (ha0 : S0 ≤ pa) (ha1 : pa < S1) (hFa : ∀ s, s < 2 → ∀ f ∈ Fa s, S0 ≤ f ∧ f < S1) (hc0 : S1 ≤ pc) (hc1 : pc < S2) (hFc : ∀ s, s < 2 → ∀ f ∈ Fc s, S1 ≤ f ∧ f < S2)
    (hrb : V.heap[rb]? = some (.cells (rcells pa pc cb ⟨none, 0⟩ ⟨none, 0⟩ (.slice none 0 0) r0) 133 (0, 0))) (hcb : CIs V cb ⟨0, false⟩) (hS : S2 ≤ cb) (hcr : cb < rb) :
    ∃ o : Lo, SIs V o (s0 m) ∧ o.rb = rb ∧ o.pb = (fun i => if i = 0 then pa else pc) ∧ ∀ k, o.L k ≠ 0 → S0 ≤ k := by
  have a0 := hFa 0 (by decide); have a1 := hFa 1 (by decide); have c0 := hFc 0 (by decide); have c1 := hFc 1 (by decide)
  have oa0 := hp0.out 0 (by decide); have oa1 := hp0.out 1 (by decide); have oc0 := hp1.out 0 (by decide); have oc1 := hp1.out 1 (by decide)
  obtain ⟨L, hL⟩ : ∃ L : Nat → Nat, L = fun k => if k = rb then 1 else if k = cb then 2 else if k = pa then 3 else if k = pc then 4 else if k ∈ Fa 0 then 5 else if k ∈ Fa 1 then 6 else if k ∈ Fc 0 then 7 else if k ∈ Fc 1 then 8 else 0 := ⟨_, rfl⟩
  have lrb : L rb = 1 := by rw [hL]; simp
  have lcb : L cb = 2 := by rw [hL]; simp only; rw [if_neg (by omega), if_pos trivial]
  have lpa : L pa = 3 := by rw [hL]; simp only; rw [if_neg (by omega), if_neg (by omega), if_pos trivial]
  have lpc : L pc = 4 := by rw [hL]; simp only; rw [if_neg (by omega), if_neg (by omega), if_neg (by omega), if_pos trivial]
  have la0 : ∀ k ∈ Fa 0, L k = 5 := by
    intro k hk
    have b := a0 k hk
    rw [hL]; simp only
    rw [if_neg (by omega), if_neg (by omega), if_neg (by rintro rfl; exact oa0 hk), if_neg (by omega), if_pos hk]
  have la1 : ∀ k ∈ Fa 1, L k = 6 := by
    intro k hk
    have b := a1 k hk
    rw [hL]; simp only
    rw [if_neg (by omega), if_neg (by omega), if_neg (by rintro rfl; exact oa1 hk), if_neg (by omega), if_neg (fun h => hp0.apart k h hk), if_pos hk]
  have lc0 : ∀ k ∈ Fc 0, L k = 7 := by
    intro k hk
    have b := c0 k hk
    rw [hL]; simp only
    rw [if_neg (by omega), if_neg (by omega), if_neg (by omega), if_neg (by rintro rfl; exact oc0 hk), if_neg (fun h => by have := a0 k h; omega), if_neg (fun h => by have := a1 k h; omega), if_pos hk]
  have lc1 : ∀ k ∈ Fc 1, L k = 8 := by
    intro k hk
    have b := c1 k hk
    rw [hL]; simp only
    rw [if_neg (by omega), if_neg (by omega), if_neg (by omega), if_neg (by rintro rfl; exact oc1 hk), if_neg (fun h => by have := a0 k h; omega), if_neg (fun h => by have := a1 k h; omega), if_neg (fun h => hp1.apart k h hk), if_pos hk]
  have lno : ∀ k, (k < S0 ∨ V.heap.size ≤ k) → L k = 0 := by
    intro k hk
    have s1 := lt_of_heap hrb; have s2 := lt_of_heap hcb; have s3 := lt_of_heap hp0.blk; have s4 := lt_of_heap hp1.blk
    rw [hL]; simp only
    rw [if_neg (by omega), if_neg (by omega), if_neg (by omega), if_neg (by omega), if_neg (fun h => by have := a0 k h; have := (hp0.q 0 (by decide)).lt k h; omega), if_neg (fun h => by have := a1 k h; have := (hp0.q 1 (by decide)).lt k h; omega), if_neg (fun h => by have := c0 k h; have := (hp1.q 0 (by decide)).lt k h; omega), if_neg (fun h => by have := c1 k h; have := (hp1.q 1 (by decide)).lt k h; omega)]
  refine ⟨⟨rb, cb, fun i => if i = 0 then pa else pc, fun i => if i = 0 then ba else bc, fun i => if i = 0 then Fa else Fc, fun _ => ⟨none, 0⟩, ⟨none, 0⟩, L⟩, ⟨ho, hrb, hcb, fun i hi => ?_, fun d _ => ⟨⟨rfl, Nat.zero_le _, fun h => absurd h (Nat.lt_irrefl _)⟩, Nat.le_refl _, fun a ha => by cases ha⟩, Kd.R_nil _ _ _ _ _, lrb, lcb, fun i hi => ?_, fun i j hi hj k hk => ?_, lno 1 (.inl h1), fun k hk => lno k (.inr hk), Nat.le_refl 262144, Nat.zero_le 4096⟩, rfl, rfl, fun k hk => ?_⟩
  · obtain rfl | rfl : i = 0 ∨ i = 1 := by omega
    · exact hp0
    · exact hp1
  · obtain rfl | rfl : i = 0 ∨ i = 1 := by omega
    · exact lpa
    · exact lpc
  · obtain rfl | rfl : i = 0 ∨ i = 1 := by omega
    · obtain rfl | rfl : j = 0 ∨ j = 1 := by omega
      · exact la0 k hk
      · exact la1 k hk
    · obtain rfl | rfl : j = 0 ∨ j = 1 := by omega
      · exact lc0 k hk
      · exact lc1 k hk
  · rcases Nat.lt_or_ge k S0 with h | h
    · exact absurd (lno k (.inl h)) hk
    · exact h

/-- j lines are made, in Record's array at G -/
def Lines (W0 : World) (G m j : Nat) (w : World) : Prop :=
  Below W0.heap.size W0 w ∧ W0.heap.size ≤ G ∧ ∃ v0 v1 : Value, w.heap[G]? = some (.cells #[v0, v1] 81 (0, 0)) ∧
    (0 < j → ∃ pa Fa ba S1, v0 = .pointer (some ⟨pa, 0, none⟩) ∧ PIs w pa Fa (p0 m) ba ∧ G < pa ∧ pa < S1 ∧ (∀ s, s < 2 → ∀ f ∈ Fa s, G < f ∧ f < S1) ∧ S1 ≤ w.heap.size ∧
      (1 < j → ∃ pc Fc bc, v1 = .pointer (some ⟨pc, 0, none⟩) ∧ PIs w pc Fc (p0 m) bc ∧ S1 ≤ pc ∧ ∀ s, s < 2 → ∀ f ∈ Fc s, S1 ≤ f))
theorem Lines.cell {G m j : Nat} {w : World} (h : Lines W0 G m j w) (hj : j < 2) : (∃ v, w.cell? ⟨G, j, none⟩ = some v) ∧ w.frozen? ⟨G, j, none⟩ = false := by
  obtain ⟨_, _, v0, v1, hb, _⟩ := h
  refine ⟨?_, blk_frozen hb j⟩
  obtain rfl | rfl : j = 0 ∨ j = 1 := by omega
  · exact ⟨v0, (blk_cell hb 0).trans rfl⟩
  · exact ⟨v1, (blk_cell hb 1).trans rfl⟩
theorem Lines.below {G m j : Nat} {w w1 : World} (h : Lines W0 G m j w) (hb : Below w.heap.size w w1) : Lines W0 G m j w1 := by
  obtain ⟨h1, h2, v0, v1, h3, h4⟩ := h
  have hc := Ch.of_below hb []
  refine ⟨below_step h1 hb, h2, v0, v1, hc.heap h3 (by simp), fun hj => ?_⟩
  obtain ⟨pa, Fa, ba, S1, e, hp, k1, k2, k3, k4, k5⟩ := h4 hj
  refine ⟨pa, Fa, ba, S1, e, hp.frame hc (by simp) (by simp), k1, k2, k3, Nat.le_trans k4 hb.size, fun hj1 => ?_⟩
  obtain ⟨pc, Fc, bc, e2, hp2, k6, k7⟩ := k5 hj1
  exact ⟨pc, Fc, bc, e2, hp2.frame hc (by simp) (by simp), k6, k7⟩
theorem Lines.put {G m j pb : Nat} {w w1 : World} {b : Nat → Nat} {FF : Nat → List Nat} (h : Lines W0 G m j w) (hj : j < 2) (hp : PIs w1 pb FF (p0 m) b) (hF : ∀ s, s < 2 → ∀ f ∈ FF s, w.heap.size ≤ f) (hpb : w.heap.size ≤ pb) (hb : Below w.heap.size w w1) :
    Lines W0 G m (j + 1) (w1.setCell ⟨G, j, none⟩ (.pointer (some ⟨pb, 0, none⟩))) := by
  have hG : G < w.heap.size := by obtain ⟨_, _, _, _, h3, _⟩ := h; exact lt_of_heap h3
  obtain ⟨h1, h2, v0, v1, h3, h4⟩ := h.below hb
  have hc : Ch [G] w1 (w1.setCell ⟨G, j, none⟩ (.pointer (some ⟨pb, 0, none⟩))) := (Ch.refl _ _).set (by simp) _ _
  have hB := h1.setCell (p := ⟨G, j, none⟩) h2 (.pointer (some ⟨pb, 0, none⟩))
  have hp' := hp.frame hc (by simp; omega) (fun s hs k hk => by have := hF s hs k hk; simp; omega)
  obtain rfl | rfl : j = 0 ∨ j = 1 := by omega
  · refine ⟨hB, h2, _, v1, blk_set h3 0 _, fun _ => ⟨pb, FF, b, w1.heap.size, rfl, hp', by omega, lt_of_heap hp.blk, fun s hs f hf => ⟨by have := hF s hs f hf; omega, (hp.q s hs).lt f hf⟩, hc.size, fun h => absurd h (by decide)⟩⟩
  · obtain ⟨_, _, u0, u1, g3, g4⟩ := h
    obtain ⟨pa, Fa, ba, S1, e, hp1, k1, k2, k3, k4, k5⟩ := g4 (by decide)
    have hbc := Ch.of_below hb []
    have hsz := hc.size
    have hsb := hb.size
    refine ⟨hB, h2, u0, _, blk_set (hbc.heap g3 (by simp)) 1 _, fun _ => ⟨pa, Fa, ba, S1, e, (hp1.frame hbc (by simp) (by simp)).frame hc (by simp; omega) (fun s hs k hk => by have := k3 s hs k hk; simp; omega), k1, k2, k3, by omega, fun _ => ⟨pb, FF, b, rfl, hp', by omega, fun s hs f hf => by have := hF s hs f hf; omega⟩⟩⟩

/-- what happens, once -/
def Sz.act (s : Sz) (p : QA.S32) : Sz :=
  if p.f0 = 4 then s.turn 0 1 (((s.line 0).way 1).put p.f3) else if p.f0 = 5 then s.turn 0 0 (((s.line 0).way 0).drop p.f1) else if p.f0 = 6 then s.turn 0 1 ((s.line 0).way 1).end_
  else if p.f0 = 7 then s.turn 1 0 (((s.line 1).way 0).put p.f3) else if p.f0 = 8 then s.turn 1 1 (((s.line 1).way 1).drop p.f1) else if p.f0 = 9 then s.turn 1 0 ((s.line 1).way 0).end_
  else s.step p.f0 p.f1 p.f2
def acts (s : Sz) (l : List QA.S32) : Sz := l.foldl Sz.act s
theorem Nxt.zero {S k : Nat} {o0 : Lo} {w : World} (h : Nxt o0 W1 o w) (hL : ∀ k, o0.L k ≠ 0 → S ≤ k) (hk : k < S) (hS : S ≤ W1.heap.size) : o.L k = 0 := by
  rw [h.old k (by omega)]
  rcases Nat.eq_zero_or_pos (o0.L k) with h0 | h0
  · exact h0
  · have := hL k (by omega); omega
/-- the lines, and the relay on them: the system -/
theorem Lines.whole {G m : Nat} {w : World} (h : Lines W0 G m 2 w) (ho : Oth W0) (h1 : 1 < W0.heap.size) : ∃ pa pc : Nat, w.cell? ⟨G, 0, none⟩ = some (.pointer (some ⟨pa, 0, none⟩)) ∧ w.cell? ⟨G, 1, none⟩ = some (.pointer (some ⟨pc, 0, none⟩)) ∧
    Calls Tryz.prog 25 #[.pointer (some ⟨pa, 0, none⟩), .pointer (some ⟨pc, 0, none⟩)] w fun e W' => ∃ o : Lo, e = .returned (.tuple #[.pointer (some ⟨o.rb, 0, none⟩), .int .i64 0]) ∧ SIs W' o (s0 m) ∧ o.pb 0 = pa ∧ o.pb 1 = pc ∧ (∀ k, o.L k ≠ 0 → G + 1 ≤ k) ∧ Below W0.heap.size W0 W' ∧ W'.cell? ⟨G, 0, none⟩ = some (.pointer (some ⟨pa, 0, none⟩)) ∧ W'.cell? ⟨G, 1, none⟩ = some (.pointer (some ⟨pc, 0, none⟩)) ∧ G + 1 ≤ W'.heap.size ∧ o.L G = 0 ∧ (∃ v0 v1, W'.heap[G]? = some (.cells #[v0, v1] 81 (0, 0)) ∧ v0 = .pointer (some ⟨pa, 0, none⟩) ∧ v1 = .pointer (some ⟨pc, 0, none⟩)) := by
  obtain ⟨h2, h3, v0, v1, h4, h5⟩ := h
  obtain ⟨pa, Fa, ba, S1, rfl, hp, k1, k2, k3, k4, k5⟩ := h5 (by decide)
  obtain ⟨pc, Fc, bc, rfl, hp2, k6, k7⟩ := k5 (by decide)
  refine ⟨pa, pc, (blk_cell h4 0).trans rfl, (blk_cell h4 1).trans rfl, (r_New (by omega) hp.blk hp2.blk).mono ?_⟩
  rintro e W' ⟨rb, cb, rfl, hrb, hcb, hs, hlt, hb⟩
  have hc := Ch.of_below hb []
  have hB := below_step h2 hb
  have ho' : Oth W' := ⟨pw_cell_below hB ho.1, pw_cell_below hB ho.2⟩
  obtain ⟨o, hsys, ho1, ho2, hoL⟩ := sys_new (S0 := G + 1) (S2 := w.heap.size) ho' (by omega) (hp.frame hc (by simp) (by simp)) (hp2.frame hc (by simp) (by simp)) (by omega) k2 (fun s hs f hf => ⟨(k3 s hs f hf).1, (k3 s hs f hf).2⟩) k6 (lt_of_heap hp2.blk) (fun s hs f hf => ⟨k7 s hs f hf, (hp2.q s hs).lt f hf⟩) hrb hcb hs hlt
  have hG := hc.heap h4 (by simp)
  refine ⟨o, by rw [ho1], hsys, by rw [ho2]; rfl, by rw [ho2]; rfl, hoL, hB, (blk_cell hG 0).trans rfl, (blk_cell hG 1).trans rfl, lt_of_heap hG, ?_, ⟨_, _, hG, rfl, rfl⟩⟩
  rcases Nat.eq_zero_or_pos (o.L G) with h0 | h0
  · exact h0
  · have := hoL G (by omega); omega
end
end Go.Proofs.YtbdknddgfmoipaaGreatDoor.TQ
