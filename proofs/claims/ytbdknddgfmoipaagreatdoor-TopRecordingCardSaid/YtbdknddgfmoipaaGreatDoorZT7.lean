import Derived.RangeFuncNested
import Derived.RangeFuncBound
import Derived.RangeFuncCalls
import Derived.RangeFuncLeaves
import Derived.Shelf.Abstract
import Derived.Shelf.RegionOpen
import Derived.WalkKit
import Derived.OwnWalkIn
import Derived.TacticsInMore
import Derived.LoopNIn
import Derived.LoopIn
import Derived.Maps.AppendAt
import Derived.StillTailTactics
import Derived.Lib.Hide
import Derived.Lib.LazyBuf
import Derived.Outline
import Derived.Deep.RegionWith
import Derived.Deep.RegionLaw
import Derived.Deep.RegionHeld3
import Derived.Deep.CutBlock
import Derived.Deep.AppendLies
import Derived.Deep.DeepCutAuto
import Derived.Lib.Bytes
import Derived.Lib.SmallJoins
import Derived.Laws.EntriesVeiled
import Derived.BigRegion
import Derived.BigQuiet
import Derived.CallsIn
import Derived.Test.YtbdknddgfmoipaaGreatDoorProg
import Derived.Test.YtbdknddgfmoipaaGreatDoorZW
import Derived.Test.YtbdknddgfmoipaaGreatDoorZT6
set_option linter.unusedVariables false
set_option linter.unusedSimpArgs false
namespace Go.Proofs.YtbdknddgfmoipaaGreatDoor.TQ
open Go.RowKit Go.Shelf Go.Proofs.YtbdknddgfmoipaaGreatDoorW.PrintWords Go.Proofs.YtbdknddgfmoipaaGreatDoorW.PrintLast Go.Proofs.YtbdknddgfmoipaaGreatDoorW.PrintMore
set_option linter.unusedVariables false
set_option linter.unusedSimpArgs false


section
variable {F F1 : List Nat} {W W0 W1 W2 W' V : World} {o o' : Lo} {s : Sz} {y : Yz} {wb : Nat}
/-- the world with the pick's block E -/
structure Do0 (V : World) (wb E : Nat) (o : Lo) (y : Yz) (A3 : Option Addr) (nb c3 : Nat) (k n t : Int) (B : List Int) : Prop where
  w : WIs V wb o y
  e : V.heap[E]? = some (.cells #[.int .i64 k, .int .i64 n, .int .i64 t, .slice A3 nb c3] 34 (0, 0))
  le : o.L E = 0
  r : ReadsInt V .u8 A3 nb B
  lr : 0 < nb → ∀ a, A3 = some a → o.L a.block = 0
theorem Do0.drew {E : Nat} {A3 : Option Addr} {nb c3 : Nat} {k n t : Int} {B : List Int} (h : Do0 V wb E o y A3 nb c3 k n t B) : Do0 V.drew wb E o y A3 nb c3 k n t B :=
  ⟨⟨h.w.sys.below (below_drew (Below.refl _ _)), h.w.blk, h.w.lwb⟩, h.e, h.le, h.r.below (below_drew (Below.refl _ _)), h.lr⟩
theorem w_cells {V : World} (h : WIs V wb o y) : V.cell? ⟨wb, 0, none⟩ = some (.pointer (some ⟨o.pb 0, 0, none⟩)) ∧ V.cell? ⟨wb, 1, none⟩ = some (.pointer (some ⟨o.pb 1, 0, none⟩)) ∧ V.cell? ⟨wb, 2, none⟩ = some (.pointer (some ⟨o.rb, 0, none⟩)) ∧ V.cell? ⟨wb, 3, none⟩ = some (.string (strOfNums (y.wr 0))) ∧ V.cell? ⟨wb, 4, none⟩ = some (.string (strOfNums (y.wr 1))) ∧ V.cell? ⟨wb, 5, none⟩ = some (.string (strOfNums (y.rd 0))) ∧ V.cell? ⟨wb, 6, none⟩ = some (.string (strOfNums (y.rd 1))) :=
  ⟨h.cell 0, h.cell 1, h.cell 2, h.cell 3, h.cell 4, h.cell 5, h.cell 6⟩
/-- the system has moved -/
theorem Do0.next {E : Nat} {A3 : Option Addr} {nb c3 : Nat} {k n t : Int} {B : List Int} (h : Do0 V wb E o y A3 nb c3 k n t B) {s' : Sz} {V2 : World} {o2 : Lo} (hs : SIs V2 o2 s') (hn : Nxt o V o2 V2) : Do0 V2 wb E o2 { y with s := s' } A3 nb c3 k n t B :=
  ⟨⟨hs, (h.w.next hs hn).1, (h.w.next hs hn).2⟩, (hn.heap h.e h.le).1, (hn.heap h.e h.le).2, reads_nxt0 h.r hn h.lr, fun h0 a ha => by
    obtain ⟨a1, ha1, hx⟩ := h.r.2.2 h0
    have h3 := lt_of_cell (hx 0 h0)
    rw [ha] at ha1
    injection ha1 with ha1
    subst ha1
    exact (hn.old _ (by simpa [Addr.add] using h3)).trans (h.lr h0 a ha)⟩
theorem act_rd5 (n t : Int) (B : List Int) : (y.act ⟨5, n, t, B⟩).rd 0 = y.rd 0 ++ ((y.s.line 0).way 0).take n := by simp [Yz.act]
theorem act_rd8 (n t : Int) (B : List Int) : (y.act ⟨8, n, t, B⟩).rd 1 = y.rd 1 ++ ((y.s.line 1).way 1).take n := by simp [Yz.act]
theorem act_wr4 (n t : Int) (B : List Int) : (y.act ⟨4, n, t, B⟩).wr 0 = y.wr 0 ++ B.take (min B.length ((y.s.line 0).way 1).room) := by simp [Yz.act]
theorem act_wr7 (n t : Int) (B : List Int) : (y.act ⟨7, n, t, B⟩).wr 1 = y.wr 1 ++ B.take (min B.length ((y.s.line 1).way 0).room) := by simp [Yz.act]
theorem str_fits {a b : List Int} (h : (a ++ b).length ≤ 1000000) : (9223372036854775807 < (strOfNums a).size + (strOfNums b).size) = False := eq_false (by rw [strOfNums_size, strOfNums_size]; rw [List.length_append] at h; omega)
/-- what was read is told -/
theorem Do0.told5 {E : Nat} {A3 : Option Addr} {nb c3 : Nat} {n t : Int} {B ys : List Int} {o2 : Lo} {V2 : World} (h : Do0 V2 wb E o2 { y with s := y.s.turn 0 0 (((y.s.line 0).way 0).drop n) } A3 nb c3 5 n t B) (hy : ys = ((y.s.line 0).way 0).take n) :
    WIs (V2.setCell ⟨wb, 5, none⟩ (.string (strOfNums (y.rd 0) ++ strOfNums ys))) wb o2 (y.act ⟨5, n, t, B⟩) := by
  refine h.w.set 5 _ _ (act5 n t B) ?_
  have e : (y.act ⟨5, n, t, B⟩).rd 1 = y.rd 1 := by simp [Yz.act]
  have e0 : (y.act ⟨5, n, t, B⟩).wr 0 = y.wr 0 := by simp [Yz.act]
  have e1 : (y.act ⟨5, n, t, B⟩).wr 1 = y.wr 1 := by simp [Yz.act]
  unfold wcells
  rw [act_rd5, e, e0, e1, str_append, hy]
  rfl
theorem Do0.told8 {E : Nat} {A3 : Option Addr} {nb c3 : Nat} {n t : Int} {B ys : List Int} {o2 : Lo} {V2 : World} (h : Do0 V2 wb E o2 { y with s := y.s.turn 1 1 (((y.s.line 1).way 1).drop n) } A3 nb c3 8 n t B) (hy : ys = ((y.s.line 1).way 1).take n) :
    WIs (V2.setCell ⟨wb, 6, none⟩ (.string (strOfNums (y.rd 1) ++ strOfNums ys))) wb o2 (y.act ⟨8, n, t, B⟩) := by
  refine h.w.set 6 _ _ (act8 n t B) ?_
  have e : (y.act ⟨8, n, t, B⟩).rd 0 = y.rd 0 := by simp [Yz.act]
  have e0 : (y.act ⟨8, n, t, B⟩).wr 0 = y.wr 0 := by simp [Yz.act]
  have e1 : (y.act ⟨8, n, t, B⟩).wr 1 = y.wr 1 := by simp [Yz.act]
  unfold wcells
  rw [act_rd8, e, e0, e1, str_append, hy]
  rfl
/-- what was written is told -/
theorem Do0.told4 {E : Nat} {A3 : Option Addr} {nb c3 r : Nat} {n t : Int} {B : List Int} {o2 : Lo} {V2 : World} (h : Do0 V2 wb E o2 { y with s := y.s.turn 0 1 (((y.s.line 0).way 1).put B) } A3 nb c3 4 n t B) (hr : r = min B.length ((y.s.line 0).way 1).room) :
    WIs (V2.setCell ⟨wb, 3, none⟩ (.string (strOfNums (y.wr 0) ++ strOfNums (B.take r)))) wb o2 (y.act ⟨4, n, t, B⟩) := by
  refine h.w.set 3 _ _ (act4 n t B) ?_
  have e : (y.act ⟨4, n, t, B⟩).rd 0 = y.rd 0 := by simp [Yz.act]
  have e0 : (y.act ⟨4, n, t, B⟩).rd 1 = y.rd 1 := by simp [Yz.act]
  have e1 : (y.act ⟨4, n, t, B⟩).wr 1 = y.wr 1 := by simp [Yz.act]
  unfold wcells
  rw [act_wr4, e, e0, e1, str_append, hr]
  rfl
theorem Do0.told7 {E : Nat} {A3 : Option Addr} {nb c3 r : Nat} {n t : Int} {B : List Int} {o2 : Lo} {V2 : World} (h : Do0 V2 wb E o2 { y with s := y.s.turn 1 0 (((y.s.line 1).way 0).put B) } A3 nb c3 7 n t B) (hr : r = min B.length ((y.s.line 1).way 0).room) :
    WIs (V2.setCell ⟨wb, 4, none⟩ (.string (strOfNums (y.wr 1) ++ strOfNums (B.take r)))) wb o2 (y.act ⟨7, n, t, B⟩) := by
  refine h.w.set 4 _ _ (act7 n t B) ?_
  have e : (y.act ⟨7, n, t, B⟩).rd 0 = y.rd 0 := by simp [Yz.act]
  have e0 : (y.act ⟨7, n, t, B⟩).rd 1 = y.rd 1 := by simp [Yz.act]
  have e1 : (y.act ⟨7, n, t, B⟩).wr 0 = y.wr 0 := by simp [Yz.act]
  unfold wcells
  rw [act_wr7, e, e0, e1, str_append, hr]
  rfl
theorem reads_string {A : Option Addr} {n c : Nat} {xs : List Int} (h : ReadsInt V .u8 A n xs) (m : Nat) : (convert 25 9 (.slice A n c)).run Tryz.prog (V.drewN m) = .ok (.string (strOfNums xs)) (V.drewN m) :=
  Kd.C_string (P := Tryz.prog) Tryz.underlying25 Tryz.underlying5 Tryz.underlying9 (Kd.C_of_reads (enc := Value.int .u8) (d := (0 : Int)) (h1 := fun _ => rfl) (h.below (pw_below_drewN (Below.refl _ _) m)))
set_option maxRecDepth 100000 in
set_option maxHeartbeats 4000000 in
theorem w_Do (h : WIs W wb o y) (k n t : Int) (B : List Int) (A3 : Option Addr) (nb c3 : Nat) (hnb : nb = B.length) (hR : ReadsInt W .u8 A3 nb B) (hle : nb ≤ c3) (hsm : nb ≤ 100) (hL3 : 0 < nb → ∀ a, A3 = some a → o.L a.block = 0) (hbd : ∀ i, ((y.act ⟨k, n, t, B⟩).wr i).length ≤ 1000000 ∧ ((y.act ⟨k, n, t, B⟩).rd i).length ≤ 1000000) :
    Calls Tryz.prog 11 #[.pointer (some ⟨wb, 0, none⟩), .agg #[.int .i64 k, .int .i64 n, .int .i64 t, .slice A3 nb c3]] W fun e W' => ∃ v o', e = .returned v ∧ WIs W' wb o' (y.act ⟨k, n, t, B⟩) ∧ Wx o W wb o' W' := by
  have hbE := below_alloc (Below.refl _ W) (.cells #[.int .i64 k, .int .i64 n, .int .i64 t, .slice A3 nb c3] 34)
  have hD : Do0 (W.alloc (.cells #[.int .i64 k, .int .i64 n, .int .i64 t, .slice A3 nb c3] 34)) wb W.heap.size o y A3 nb c3 k n t B :=
    ⟨⟨h.sys.below hbE, (Ch.of_below hbE []).heap h.blk (by simp), h.lwb⟩, World.alloc_heap_new W _, h.sys.new _ (Nat.le_refl _), hR.below hbE, hL3⟩
  have hNE := Nxt.of_below o hbE
  have HNE := Lib.hid hNE
  have HD := Lib.hid hD
  have HNB := Lib.hid hnb
  have HLE := Lib.hid hle
  have HSM := Lib.hid hsm
  have HBD := Lib.hid hbd
  obtain ⟨k0, k1, k2, k3⟩ := pick34 hD.e
  clear h hnb hR hle hsm hbd hL3 hD hNE hbE
  go_enter Tryz.func11, Tryz.ntmps11
  go_upto_region 1 with (fail)
  generalize W.alloc (.cells #[.int .i64 k, .int .i64 n, .int .i64 t, .slice A3 nb c3] 34) = V at HNE HD k0 k1 k2 k3 ⊢
  by_cases q6 : k = 6
  · subst q6
    obtain ⟨u0, u1, u2, u3, u4, u5, u6⟩ := w_cells HD.out.w
    have HCALL := Lib.hid (s_Hang HD.out.w.sys 0 0 1 (by decide) (by decide) rfl 0 rfl)
    clear u2 u3 u4 u5 u6
    go_wp2_with (go_at_call 29; (with_reducible refine HCALL.out.mono ?_); rintro e V2 ⟨o2, rfl, hs, hn, hx1, hx2⟩; have HS2 := Lib.hid hs; have HN2 := Lib.hid hn; clear hs hn)
    go_ret
    have hD2 := HD.out.next HS2.out HN2.out
    have hfin : WIs V2 wb o2 (y.act ⟨6, n, t, B⟩) := ⟨by rw [show (y.act ⟨6, n, t, B⟩).s = y.s.act ⟨6, n, t, B⟩ from rfl, act6]; exact hD2.w.sys, hD2.w.blk, hD2.w.lwb⟩
    first
      | exact ⟨_, o2, rfl, hfin, Wx.of (HNE.out.trans HN2.out)⟩
      | exact ⟨⟨_, rfl⟩, o2, hfin, Wx.of (HNE.out.trans HN2.out)⟩
      | exact ⟨o2, hfin, Wx.of (HNE.out.trans HN2.out)⟩
  by_cases q9 : k = 9
  · subst q9
    obtain ⟨u0, u1, u2, u3, u4, u5, u6⟩ := w_cells HD.out.w
    have HCALL := Lib.hid (s_Hang HD.out.w.sys 1 1 0 (by decide) (by decide) rfl 1 rfl)
    clear u2 u3 u4 u5 u6
    go_wp2_with (go_at_call 29; (with_reducible refine HCALL.out.mono ?_); rintro e V2 ⟨o2, rfl, hs, hn, hx1, hx2⟩; have HS2 := Lib.hid hs; have HN2 := Lib.hid hn; clear hs hn)
    go_ret
    have hD2 := HD.out.next HS2.out HN2.out
    have hfin : WIs V2 wb o2 (y.act ⟨9, n, t, B⟩) := ⟨by rw [show (y.act ⟨9, n, t, B⟩).s = y.s.act ⟨9, n, t, B⟩ from rfl, act9]; exact hD2.w.sys, hD2.w.blk, hD2.w.lwb⟩
    first
      | exact ⟨_, o2, rfl, hfin, Wx.of (HNE.out.trans HN2.out)⟩
      | exact ⟨⟨_, rfl⟩, o2, hfin, Wx.of (HNE.out.trans HN2.out)⟩
      | exact ⟨o2, hfin, Wx.of (HNE.out.trans HN2.out)⟩
  by_cases q4 : k = 4
  · subst q4
    go_upto_region 4 with (fail)
    obtain ⟨u0, u1, u2, u3, u4, u5, u6⟩ := w_cells HD.out.drew.w
    obtain ⟨k0', k1', k2', k3'⟩ := pick34 HD.out.drew.e
    have HCALL := Lib.hid (s_Write HD.out.drew.w.sys 0 0 1 (by decide) (by decide) rfl 0 rfl A3 nb c3 B HD.out.drew.r HLE.out HD.out.drew.lr)
    have HDD := Lib.hid HD.out.drew
    have HND := Lib.hid (HNE.out.trans (Nxt.of_below o (below_drew (Below.refl V.heap.size V))))
    clear k0 k1 k2 k3 k0' k1' k2' u2 u3 u4 u5 u6
    go_cut [5] (fun s5 wx => ∃ (r : Nat) (o2 : Lo), s5 = .int .i64 (r : Int) ∧ r = min B.length ((y.s.line 0).way 1).room ∧ Do0 wx wb W.heap.size o2 { y with s := y.s.turn 0 1 (((y.s.line 0).way 1).put B) } A3 nb c3 4 n t B ∧ Nxt o W o2 wx)
    case first =>
      go_region_law (go_simp; go_at_call 27; (with_reducible refine HCALL.out.mono ?_); (rintro e V2 ⟨r, o2, rfl, hr, hs, hn, hx1, hx2⟩); (have hD2 := HDD.out.next hs hn); (obtain ⟨_, _, _, v3⟩ := pick34 hD2.e); (have hrl : r ≤ nb := by have := HNB.out; omega); (have hmin := fun ats ty => min_is (r : Int) (nb : Int) (r : Int) (by omega) ats ty); (have hmax := fun ats ty => max_is 0 (r : Int) (r : Int) (by omega) ats ty); have HR := Lib.hid hr; have HD2 := Lib.hid hD2; have HN2 := Lib.hid hn; clear hr hs hn hx1 hx2 hD2 hrl)
      all_goals go_wp2_with (fail)
      all_goals go_meet
      all_goals exact ⟨_, _, rfl, HR.out, HD2.out, HND.out.trans HN2.out⟩
    case rest =>
      obtain ⟨r, o2, rfl, hr, hD2, hn2⟩ := hcut
      have hrl : r ≤ nb := by have := HNB.out; omega
      obtain ⟨v0, v1, v2, v3, v4, v5, v6⟩ := w_cells hD2.drew.w
      obtain ⟨p0, p1, p2, p3⟩ := pick34 hD2.drew.e
      obtain ⟨i0, hi0, hz0, hz1, hz2⟩ := info_parts info5
      have hcut := cut_to (P := Tryz.prog) 25 5 .i64 Tryz.underlying25 hi0 A3 nb c3 (r : Int) (by omega) (by omega) HLE.out
      simp only [Int.toNat_natCast] at hcut
      have hcv : (convert 25 9 (.slice A3 r c3)).run Tryz.prog wc.drew = .ok (.string (strOfNums (B.take r))) wc.drew := reads_string (V := wc.drew) (c := c3) (reads_take hD2.drew.r r hrl) 0
      have fw := blk_frozen hD2.drew.w.blk 3
      have hsz := str_fits (a := y.wr 0) (b := B.take r) (by have := (HBD.out 0).1; rw [act_wr4, ← hr] at this; exact this)
      have hfin := hD2.drew.told4 hr
      have hx := (Wx.of (wb := wb) (hn2.trans (Nxt.of_below o2 (below_drew (Below.refl wc.heap.size wc))))).set 3 (.string (strOfNums (y.wr 0) ++ strOfNums (B.take r)))
      have HFIN := Lib.hid hfin
      have HX := Lib.hid hx
      clear hr hD2 hn2 hrl v0 v1 v2 p0 p1 p2 hz0 hz1 hz2 hi0 hfin hx u0 u1 k3'
      go_upto_region 5 with (fail)
      go_region_law (fail)
      all_goals go_wp2
      all_goals go_ret
      all_goals first
        | exact ⟨_, o2, rfl, HFIN.out, HX.out⟩
        | exact ⟨⟨_, rfl⟩, o2, HFIN.out, HX.out⟩
        | exact ⟨o2, HFIN.out, HX.out⟩
  by_cases q7 : k = 7
  · subst q7
    go_upto_region 11 with (fail)
    obtain ⟨u0, u1, u2, u3, u4, u5, u6⟩ := w_cells HD.out.drew.w
    obtain ⟨k0', k1', k2', k3'⟩ := pick34 HD.out.drew.e
    have HCALL := Lib.hid (s_Write HD.out.drew.w.sys 1 1 0 (by decide) (by decide) rfl 1 rfl A3 nb c3 B HD.out.drew.r HLE.out HD.out.drew.lr)
    have HDD := Lib.hid HD.out.drew
    have HND := Lib.hid (HNE.out.trans (Nxt.of_below o (below_drew (Below.refl V.heap.size V))))
    clear k0 k1 k2 k3 k0' k1' k2' u2 u3 u4 u5 u6
    go_cut [6] (fun s5 wx => ∃ (r : Nat) (o2 : Lo), s5 = .int .i64 (r : Int) ∧ r = min B.length ((y.s.line 1).way 0).room ∧ Do0 wx wb W.heap.size o2 { y with s := y.s.turn 1 0 (((y.s.line 1).way 0).put B) } A3 nb c3 7 n t B ∧ Nxt o W o2 wx)
    case first =>
      go_region_law (go_simp; go_at_call 27; (with_reducible refine HCALL.out.mono ?_); (rintro e V2 ⟨r, o2, rfl, hr, hs, hn, hx1, hx2⟩); (have hD2 := HDD.out.next hs hn); (obtain ⟨_, _, _, v3⟩ := pick34 hD2.e); (have hrl : r ≤ nb := by have := HNB.out; omega); (have hmin := fun ats ty => min_is (r : Int) (nb : Int) (r : Int) (by omega) ats ty); (have hmax := fun ats ty => max_is 0 (r : Int) (r : Int) (by omega) ats ty); have HR := Lib.hid hr; have HD2 := Lib.hid hD2; have HN2 := Lib.hid hn; clear hr hs hn hx1 hx2 hD2 hrl)
      all_goals go_wp2_with (fail)
      all_goals go_meet
      all_goals exact ⟨_, _, rfl, HR.out, HD2.out, HND.out.trans HN2.out⟩
    case rest =>
      obtain ⟨r, o2, rfl, hr, hD2, hn2⟩ := hcut
      have hrl : r ≤ nb := by have := HNB.out; omega
      obtain ⟨v0, v1, v2, v3, v4, v5, v6⟩ := w_cells hD2.drew.w
      obtain ⟨p0, p1, p2, p3⟩ := pick34 hD2.drew.e
      obtain ⟨i0, hi0, hz0, hz1, hz2⟩ := info_parts info5
      have hcut := cut_to (P := Tryz.prog) 25 5 .i64 Tryz.underlying25 hi0 A3 nb c3 (r : Int) (by omega) (by omega) HLE.out
      simp only [Int.toNat_natCast] at hcut
      have hcv : (convert 25 9 (.slice A3 r c3)).run Tryz.prog wc.drew = .ok (.string (strOfNums (B.take r))) wc.drew := reads_string (V := wc.drew) (c := c3) (reads_take hD2.drew.r r hrl) 0
      have fw := blk_frozen hD2.drew.w.blk 4
      have hsz := str_fits (a := y.wr 1) (b := B.take r) (by have := (HBD.out 1).1; rw [act_wr7, ← hr] at this; exact this)
      have hfin := hD2.drew.told7 hr
      have hx := (Wx.of (wb := wb) (hn2.trans (Nxt.of_below o2 (below_drew (Below.refl wc.heap.size wc))))).set 4 (.string (strOfNums (y.wr 1) ++ strOfNums (B.take r)))
      have HFIN := Lib.hid hfin
      have HX := Lib.hid hx
      clear hr hD2 hn2 hrl v0 v1 v2 p0 p1 p2 hz0 hz1 hz2 hi0 hfin hx u0 u1 k3'
      go_upto_region 12 with (fail)
      go_region_law (fail)
      all_goals go_wp2
      all_goals go_ret
      all_goals first
        | exact ⟨_, o2, rfl, HFIN.out, HX.out⟩
        | exact ⟨⟨_, rfl⟩, o2, HFIN.out, HX.out⟩
        | exact ⟨o2, HFIN.out, HX.out⟩
  by_cases q5 : k = 5
  · subst q5
    go_upto_region 7 with (fail)
    obtain ⟨u0, u1, u2, u3, u4, u5, u6⟩ := w_cells HD.out.drew.w
    obtain ⟨k0', k1', k2', k3'⟩ := pick34 HD.out.drew.e
    have HCALL := Lib.hid (s_Read HD.out.drew.w.sys 0 0 (by decide) (by decide) 0 rfl n)
    have HDD := Lib.hid HD.out.drew
    have HND := Lib.hid (HNE.out.trans (Nxt.of_below o (below_drew (Below.refl V.heap.size V))))
    clear k0 k1 k2 k3 k0' k2' k3' u2 u3 u4
    go_region_law (go_simp; go_at_call 28; (with_reducible refine HCALL.out.mono ?_); (rintro e V2 ⟨v, ys, o2, rfl, hys, hown, hs, hn, hx1, hx2, hx3⟩); (obtain ⟨Ay, cy, rfl⟩ := own_slice hown); (have hD2 := HDD.out.next hs hn); (obtain ⟨v0, v1, v2, v3, v4, v5, v6⟩ := w_cells hD2.w); (have hcv := Kd.C_string (P := Tryz.prog) (c := cy) Tryz.underlying25 Tryz.underlying5 Tryz.underlying9 (own_reads hown).2.1); (have fw := blk_frozen hD2.w.blk 5); (have hsz := str_fits (a := y.rd 0) (b := ys) (by have := (HBD.out 0).2; rw [act_rd5, ← hys] at this; exact this)); have HY := Lib.hid hys; have HD2 := Lib.hid hD2; have HN2 := Lib.hid hn; clear hys hown hs hn hx1 hx2 hx3 hD2)
    all_goals go_wp2
    all_goals go_ret
    all_goals have hfin := HD2.out.told5 HY.out
    all_goals have hx := (Wx.of (wb := wb) (HND.out.trans HN2.out)).set 5 (.string (strOfNums (y.rd 0) ++ strOfNums ys))
    all_goals first
      | exact ⟨_, o2, rfl, hfin, hx⟩
      | exact ⟨⟨_, rfl⟩, o2, hfin, hx⟩
      | exact ⟨o2, hfin, hx⟩
  by_cases q8 : k = 8
  · subst q8
    go_upto_region 14 with (fail)
    obtain ⟨u0, u1, u2, u3, u4, u5, u6⟩ := w_cells HD.out.drew.w
    obtain ⟨k0', k1', k2', k3'⟩ := pick34 HD.out.drew.e
    have HCALL := Lib.hid (s_Read HD.out.drew.w.sys 1 1 (by decide) (by decide) 1 rfl n)
    have HDD := Lib.hid HD.out.drew
    have HND := Lib.hid (HNE.out.trans (Nxt.of_below o (below_drew (Below.refl V.heap.size V))))
    clear k0 k1 k2 k3 k0' k2' k3' u2 u3 u4
    go_region_law (go_simp; go_at_call 28; (with_reducible refine HCALL.out.mono ?_); (rintro e V2 ⟨v, ys, o2, rfl, hys, hown, hs, hn, hx1, hx2, hx3⟩); (obtain ⟨Ay, cy, rfl⟩ := own_slice hown); (have hD2 := HDD.out.next hs hn); (obtain ⟨v0, v1, v2, v3, v4, v5, v6⟩ := w_cells hD2.w); (have hcv := Kd.C_string (P := Tryz.prog) (c := cy) Tryz.underlying25 Tryz.underlying5 Tryz.underlying9 (own_reads hown).2.1); (have fw := blk_frozen hD2.w.blk 6); (have hsz := str_fits (a := y.rd 1) (b := ys) (by have := (HBD.out 1).2; rw [act_rd8, ← hys] at this; exact this)); have HY := Lib.hid hys; have HD2 := Lib.hid hD2; have HN2 := Lib.hid hn; clear hys hown hs hn hx1 hx2 hx3 hD2)
    all_goals go_wp2
    all_goals go_ret
    all_goals have hfin := HD2.out.told8 HY.out
    all_goals have hx := (Wx.of (wb := wb) (HND.out.trans HN2.out)).set 6 (.string (strOfNums (y.rd 1) ++ strOfNums ys))
    all_goals first
      | exact ⟨_, o2, rfl, hfin, hx⟩
      | exact ⟨⟨_, rfl⟩, o2, hfin, hx⟩
      | exact ⟨o2, hfin, hx⟩
  have hor : k < 4 ∨ 9 < k := by omega
  have HOR := Lib.hid hor
  clear hor
  obtain ⟨u0, u1, u2, u3, u4, u5, u6⟩ := w_cells HD.out.w
  have HCALL := Lib.hid (r_Step HD.out.drew.w.sys k n t)
  clear u0 u1 u3 u4 u5 u6
  have b4 : (k == 4) = false := beq_eq_false_iff_ne.mpr q4
  have b5 : (k == 5) = false := beq_eq_false_iff_ne.mpr q5
  have b6 : (k == 6) = false := beq_eq_false_iff_ne.mpr q6
  have b7 : (k == 7) = false := beq_eq_false_iff_ne.mpr q7
  have b8 : (k == 8) = false := beq_eq_false_iff_ne.mpr q8
  have b9 : (k == 9) = false := beq_eq_false_iff_ne.mpr q9
  go_upto_region 2 with (fail)
  go_still_tail 10, (by kernel_rfl)
  change wpList _ _ _ _ _ V.drew
  clear k0 k1 k2 k3 u2
  have HND := Lib.hid (HNE.out.trans (Nxt.of_below o (below_drew (Below.refl V.heap.size V))))
  have HD1 := Lib.hid HD.out.drew
  clear HD HNE
  generalize V.drew = V1 at HCALL HND HD1 ⊢
  go_wp2_with (go_at_call 26; (with_reducible refine HCALL.out.mono ?_); rintro e V2 ⟨v, o2, rfl, hs, hn⟩; have HS2 := Lib.hid hs; have HN2 := Lib.hid hn; clear hs hn)
  go_ret
  have hD2 := HD1.out.next HS2.out HN2.out
  have hw : y.act ⟨k, n, t, B⟩ = { y with s := y.s.step k n t } := by
    unfold Yz.act
    rw [act_step HOR.out]
    congr 1
    · funext i; rw [if_neg (by rintro ⟨h, _⟩; exact q4 h), if_neg (by rintro ⟨h, _⟩; exact q7 h)]
    · funext i; rw [if_neg (by rintro ⟨h, _⟩; exact q5 h), if_neg (by rintro ⟨h, _⟩; exact q8 h)]
  have hfin : WIs V2 wb o2 (y.act ⟨k, n, t, B⟩) := by rw [hw]; exact hD2.w
  first
    | exact ⟨_, o2, rfl, hfin, Wx.of (HND.out.trans HN2.out)⟩
    | exact ⟨⟨_, rfl⟩, o2, hfin, Wx.of (HND.out.trans HN2.out)⟩
    | exact ⟨o2, hfin, Wx.of (HND.out.trans HN2.out)⟩
end

end Go.Proofs.YtbdknddgfmoipaaGreatDoor.TQ
