import Derived.LaidMore
import Derived.Deep.DeepHandedRow
import Derived.Lib.LaidTab
import Derived.OpenShut
import Derived.Test.YtbdknddgfmoipaaGreatDoorRows
import Derived.Test.YtbdknddgfmoipaaGreatDoorZT9
set_option linter.unusedVariables false
set_option linter.unusedSimpArgs false
namespace Go.Proofs.YtbdknddgfmoipaaGreatDoor.topRec
open Go.ChangeShapes Go.WideShapes Go.ChangeAt Go.RowKit
set_option linter.unusedVariables false
set_option linter.unusedSimpArgs false
theorem name_of_bytes {s t : String} (h : s.toUTF8.data.toList = t.toUTF8.data.toList) : s = t := by
  have h1 : s.toUTF8 = t.toUTF8 := ByteArray.ext (Array.toList_inj.1 h)
  first
    | exact String.toUTF8_inj.1 h1
    | exact String.toByteArray_inj.1 h1
    | exact String.ext h1
    | (cases s; cases t; simp_all [String.toUTF8])
theorem laidVars_mem {P : Program} {w : World} {n : String} {d : DataW Unit} : ∀ {l : List (String × DataW Unit)} {ps : List MemPlace}, DataW.LaidVars P w l ps → (n, d) ∈ l →
    ∃ g t cs fuel p, P.globalNamed n = some g ∧ (P.globals[g]?).map (·.type) = some t ∧ w.var? P n = some cs ∧ DataW.trod (fun _ => ()) P w 0 (fun _ => true) false fuel t cs.toList = some (d, p)
  | [], _, _, h => by cases h
  | (m, e) :: r, ps, h, hm => by
    obtain ⟨g, t, cs, fuel, p, q, h1, h2, h3, h4, h5, _⟩ := h
    rcases List.mem_cons.1 hm with e | hm
    · cases e; exact ⟨g, t, cs, fuel, p, h1, h2, h3, h4⟩
    · exact laidVars_mem h5 hm
theorem var_heap {P : Program} {w : World} {n : String} {g : Nat} {cs : Array Value} (hg : P.globalNamed n = some g) (h : w.var? P n = some cs) : ∃ e fr, w.heap[g]? = some (.cells cs e fr) := by
  simp only [World.var?, hg, Option.bind_some] at h
  split at h
  · rename_i c e fr hh; injection h with h; subst h; exact ⟨e, fr, hh⟩
  · cases h
theorem func_cell {P : Program} {w : World} {e fuel k : Nat} {c : Value} {bs : List UInt8} {p : List MemPlace} {sp : Nat → Bool} {a r : Array TypeId} {v : Bool} (name : String) (he : P.underlying e = some (.func a r v))
    (h : DataW.trod (funcToken P) P w 0 sp true fuel e [c] = some (.held bs, p)) (hb : bs = name.toUTF8.data.toList) (hne : bs ≠ []) (hk : P.funcNamed name = some k) : c = .func (.func k) #[] #[] := by
  cases fuel with
  | zero => simp [DataW.trod] at h
  | succ m =>
    unfold DataW.trod at h
    rw [he] at h
    cases c <;> simp at h
    rename_i fv first captured
    obtain ⟨h1, _⟩ := h
    unfold funcToken at h1
    cases fv <;> simp at h1
    case func f =>
      split at h1
      · rename_i hfc
        obtain ⟨rfl, rfl⟩ := hfc
        split at h1
        · rename_i fn hfn
          split at h1
          · rename_i hnm
            have hn : fn.name = name := name_of_bytes (by rw [← hb]; exact h1)
            rw [hn, hk] at hnm
            injection hnm with hnm
            subst hnm
            rfl
          · exact absurd h1.symm hne
        · exact absurd h1.symm hne
      · exact absurd h1.symm hne
    all_goals exact absurd h1 hne
theorem nil_cell {P : Program} {w : World} {e fuel : Nat} {c : Value} {p : List MemPlace} {sp : Nat → Bool} {a r : Array TypeId} {v : Bool} (he : P.underlying e = some (.func a r v))
    (h : DataW.trod (funcToken P) P w 0 sp true fuel e [c] = some (.nil, p)) : c = .nilFunc := by
  cases fuel with
  | zero => simp [DataW.trod] at h
  | succ m =>
    unfold DataW.trod at h
    rw [he] at h
    cases c <;> simp at h
    rfl
theorem table_cells {H : Type} {enc : TypeId × Value → H} {P : Program} {w : World} {t e n fuel : Nat} {cs : List Value} {ds : List (DataW H)} {p : List MemPlace} {sp : Nat → Bool} (ht : P.underlying t = some (.array n e)) (hc : P.cellsOf e = 1) (hct : P.cellsOf t = n)
    (h : DataW.trod enc P w 0 sp true fuel t cs = some (.agg ds, p)) : cs.length = n ∧ ∀ (i : Nat) (c : Value), cs[i]? = some c → ∃ m d q, ds[i]? = some d ∧ DataW.trod enc P w 0 sp true m e [c] = some (d, q) := by
  obtain ⟨xs, m, rfl, hx, hlen, hn, hel⟩ := DataW.trod_array ht h
  rw [hct] at hlen
  refine ⟨hlen, fun i c hi => ?_⟩
  have hin : i < n := by rw [← hlen]; exact (List.getElem?_eq_some_iff.1 hi).1
  have h1 := hel i hin
  rw [hc, Nat.mul_one] at h1
  have h2 : (cs.drop i).take 1 = [c] := by
    have h3 := (List.getElem?_eq_some_iff.1 hi)
    rw [List.drop_eq_getElem_cons h3.1, h3.2]; rfl
  rw [h2, List.getElem?_eq_getElem (by omega)] at h1
  simp only [Prod.mk.injEq, DataW.agg.injEq] at hx
  refine ⟨m, xs[i].1, xs[i].2, ?_, h1⟩
  rw [hx.1, List.getElem?_map, List.getElem?_eq_getElem (by omega)]; rfl
theorem gOther : Tryz.prog.globalNamed "cuecard/pty.other" = some 1 := by kernel_rfl
theorem gDeeds : Tryz.prog.globalNamed "cuecard/interp.deeds" = some 2 := by kernel_rfl
theorem gWays : Tryz.prog.globalNamed "cuecard/replay.ways" = some 0 := by kernel_rfl
theorem gAcc : Tryz.prog.globalNamed "unicode/utf8.acceptRanges" = some 10 := by kernel_rfl
theorem tOther : (Tryz.prog.globals[1]?).map (·.type) = some 197 := by kernel_rfl
theorem tDeeds : (Tryz.prog.globals[2]?).map (·.type) = some 270 := by kernel_rfl
theorem tWays : (Tryz.prog.globals[0]?).map (·.type) = some 105 := by kernel_rfl
theorem n251 : Tryz.prog.funcNamed "(*cuecard/interp.Machine).set" = some 251 := by kernel_rfl
theorem n252 : Tryz.prog.funcNamed "(*cuecard/interp.Machine).spawn" = some 252 := by kernel_rfl
theorem n253 : Tryz.prog.funcNamed "(*cuecard/interp.Machine).say" = some 253 := by kernel_rfl
theorem n254 : Tryz.prog.funcNamed "(*cuecard/interp.Machine).matchMax" = some 254 := by kernel_rfl
theorem n255 : Tryz.prog.funcNamed "(*cuecard/interp.Machine).rest" = some 255 := by kernel_rfl
theorem n256 : Tryz.prog.funcNamed "(*cuecard/interp.Machine).hang" = some 256 := by kernel_rfl
theorem n257 : Tryz.prog.funcNamed "(*cuecard/interp.Machine).exit" = some 257 := by kernel_rfl
theorem n238 : Tryz.prog.funcNamed "(*cuecard/replay.Player).read" = some 238 := by kernel_rfl
theorem n239 : Tryz.prog.funcNamed "(*cuecard/replay.Player).write" = some 239 := by kernel_rfl
theorem n240 : Tryz.prog.funcNamed "(*cuecard/replay.Player).sleep" = some 240 := by kernel_rfl
end Go.Proofs.YtbdknddgfmoipaaGreatDoor.topRec
namespace Go.Proofs.YtbdknddgfmoipaaGreatDoor.topRec
open Go.ChangeShapes Go.WideShapes Go.ChangeAt Go.RowKit
set_option linter.unusedVariables false
set_option linter.unusedSimpArgs false
theorem deeds_cells {w : World} {cs : List Value} {fuel : Nat} {p : List MemPlace} {d : DataW Unit} (hd : d = (Rows.laid_cuecard_interp_deeds : DataW Unit).funcsIn?.getD .nil) (h : DataW.trod (funcToken Tryz.prog) Tryz.prog w 0 (fun _ => true) true fuel 270 cs = some (d.funcsOut, p)) : cs = Ev.deeds := by
  subst hd
  obtain ⟨hl, hc⟩ := table_cells (ds := [.held [40, 42, 99, 117, 101, 99, 97, 114, 100, 47, 105, 110, 116, 101, 114, 112, 46, 77, 97, 99, 104, 105, 110, 101, 41, 46, 115, 101, 116], .held [40, 42, 99, 117, 101, 99, 97, 114, 100, 47, 105, 110, 116, 101, 114, 112, 46, 77, 97, 99, 104, 105, 110, 101, 41, 46, 115, 112, 97, 119, 110], .held [40, 42, 99, 117, 101, 99, 97, 114, 100, 47, 105, 110, 116, 101, 114, 112, 46, 77, 97, 99, 104, 105, 110, 101, 41, 46, 115, 97, 121], .nil, .held [40, 42, 99, 117, 101, 99, 97, 114, 100, 47, 105, 110, 116, 101, 114, 112, 46, 77, 97, 99, 104, 105, 110, 101, 41, 46, 109, 97, 116, 99, 104, 77, 97, 120], .held [40, 42, 99, 117, 101, 99, 97, 114, 100, 47, 105, 110, 116, 101, 114, 112, 46, 77, 97, 99, 104, 105, 110, 101, 41, 46, 114, 101, 115, 116], .held [40, 42, 99, 117, 101, 99, 97, 114, 100, 47, 105, 110, 116, 101, 114, 112, 46, 77, 97, 99, 104, 105, 110, 101, 41, 46, 104, 97, 110, 103], .held [40, 42, 99, 117, 101, 99, 97, 114, 100, 47, 105, 110, 116, 101, 114, 112, 46, 77, 97, 99, 104, 105, 110, 101, 41, 46, 101, 120, 105, 116]]) Tryz.underlying270 (show Tryz.prog.cellsOf 269 = 1 by kernel_rfl) (show Tryz.prog.cellsOf 270 = 8 by kernel_rfl) h
  match cs, hl with
  | [c0, c1, c2, c3, c4, c5, c6, c7], _ =>
    obtain ⟨m0, d0, q0, hd0, ht0⟩ := hc 0 c0 rfl
    injection hd0 with hd0
    subst hd0
    obtain rfl := func_cell "(*cuecard/interp.Machine).set" Tryz.underlying269 ht0 (by kernel_rfl) (by decide) n251
    obtain ⟨m1, d1, q1, hd1, ht1⟩ := hc 1 c1 rfl
    injection hd1 with hd1
    subst hd1
    obtain rfl := func_cell "(*cuecard/interp.Machine).spawn" Tryz.underlying269 ht1 (by kernel_rfl) (by decide) n252
    obtain ⟨m2, d2, q2, hd2, ht2⟩ := hc 2 c2 rfl
    injection hd2 with hd2
    subst hd2
    obtain rfl := func_cell "(*cuecard/interp.Machine).say" Tryz.underlying269 ht2 (by kernel_rfl) (by decide) n253
    obtain ⟨m3, d3, q3, hd3, ht3⟩ := hc 3 c3 rfl
    injection hd3 with hd3
    subst hd3
    obtain rfl := nil_cell Tryz.underlying269 ht3
    obtain ⟨m4, d4, q4, hd4, ht4⟩ := hc 4 c4 rfl
    injection hd4 with hd4
    subst hd4
    obtain rfl := func_cell "(*cuecard/interp.Machine).matchMax" Tryz.underlying269 ht4 (by kernel_rfl) (by decide) n254
    obtain ⟨m5, d5, q5, hd5, ht5⟩ := hc 5 c5 rfl
    injection hd5 with hd5
    subst hd5
    obtain rfl := func_cell "(*cuecard/interp.Machine).rest" Tryz.underlying269 ht5 (by kernel_rfl) (by decide) n255
    obtain ⟨m6, d6, q6, hd6, ht6⟩ := hc 6 c6 rfl
    injection hd6 with hd6
    subst hd6
    obtain rfl := func_cell "(*cuecard/interp.Machine).hang" Tryz.underlying269 ht6 (by kernel_rfl) (by decide) n256
    obtain ⟨m7, d7, q7, hd7, ht7⟩ := hc 7 c7 rfl
    injection hd7 with hd7
    subst hd7
    obtain rfl := func_cell "(*cuecard/interp.Machine).exit" Tryz.underlying269 ht7 (by kernel_rfl) (by decide) n257
    rfl
theorem ways_cells {w : World} {cs : List Value} {fuel : Nat} {p : List MemPlace} {d : DataW Unit} (hd : d = (Rows.laid_cuecard_replay_ways : DataW Unit).funcsIn?.getD .nil) (h : DataW.trod (funcToken Tryz.prog) Tryz.prog w 0 (fun _ => true) true fuel 105 cs = some (d.funcsOut, p)) : cs = Ev.ways := by
  subst hd
  obtain ⟨hl, hc⟩ := table_cells (ds := [.nil, .held [40, 42, 99, 117, 101, 99, 97, 114, 100, 47, 114, 101, 112, 108, 97, 121, 46, 80, 108, 97, 121, 101, 114, 41, 46, 114, 101, 97, 100], .held [40, 42, 99, 117, 101, 99, 97, 114, 100, 47, 114, 101, 112, 108, 97, 121, 46, 80, 108, 97, 121, 101, 114, 41, 46, 119, 114, 105, 116, 101], .held [40, 42, 99, 117, 101, 99, 97, 114, 100, 47, 114, 101, 112, 108, 97, 121, 46, 80, 108, 97, 121, 101, 114, 41, 46, 115, 108, 101, 101, 112]]) Tryz.underlying105 (show Tryz.prog.cellsOf 104 = 1 by kernel_rfl) (show Tryz.prog.cellsOf 105 = 4 by kernel_rfl) h
  match cs, hl with
  | [c0, c1, c2, c3], _ =>
    obtain ⟨m0, d0, q0, hd0, ht0⟩ := hc 0 c0 rfl
    injection hd0 with hd0
    subst hd0
    obtain rfl := nil_cell Tryz.underlying104 ht0
    obtain ⟨m1, d1, q1, hd1, ht1⟩ := hc 1 c1 rfl
    injection hd1 with hd1
    subst hd1
    obtain rfl := func_cell "(*cuecard/replay.Player).read" Tryz.underlying104 ht1 (by kernel_rfl) (by decide) n238
    obtain ⟨m2, d2, q2, hd2, ht2⟩ := hc 2 c2 rfl
    injection hd2 with hd2
    subst hd2
    obtain rfl := func_cell "(*cuecard/replay.Player).write" Tryz.underlying104 ht2 (by kernel_rfl) (by decide) n239
    obtain ⟨m3, d3, q3, hd3, ht3⟩ := hc 3 c3 rfl
    injection hd3 with hd3
    subst hd3
    obtain rfl := func_cell "(*cuecard/replay.Player).sleep" Tryz.underlying104 ht3 (by kernel_rfl) (by decide) n240
    rfl
theorem other_cells {w : World} {cs : List Value} {fuel : Nat} {p : List MemPlace} (h : DataW.trod (fun _ => ()) Tryz.prog w 0 (fun _ => true) false fuel 197 cs = some (Rows.laid_cuecard_pty_other, p)) : cs = [.int .i64 1, .int .i64 0] :=
  Lib.cells_of_tab (zs := [1, 0]) Tryz.underlying197 Tryz.underlying3 (by kernel_rfl) (by kernel_rfl) h
theorem of_laid {W : World} (h : laidMetH Tryz.prog Rows.topRecordingRow.laid W) : Ev.Laid W := by
  have h1 : laidMet Tryz.prog (Rows.topRecordingRow.laid.filter fun x => x.2.handleName?.isNone) W ∧ handlesMet Tryz.prog [("cuecard/interp.deeds", Rows.laid_cuecard_interp_deeds), ("cuecard/replay.ways", Rows.laid_cuecard_replay_ways)] W := h
  obtain ⟨⟨ps, hv, _⟩, hf⟩ := h1
  obtain ⟨g, t, cs, fuel, p, e1, e2, e3, e4⟩ := laidVars_mem (n := "cuecard/pty.other") (d := Rows.laid_cuecard_pty_other) hv (by show _ ∈ [("math/bits.deBruijn32tab", Rows.laid_math_bits_deBruijn32tab), ("math/bits.deBruijn64tab", Rows.laid_math_bits_deBruijn64tab), ("internal/strconv.uint64pow10", Rows.laid_internal_strconv_uint64pow10), ("unicode/utf8.acceptRanges", Rows.laid_unicode_utf8_acceptRanges), ("strconv.ErrRange", Rows.laid_strconv_ErrRange), ("strconv.ErrSyntax", Rows.laid_strconv_ErrSyntax), ("cuecard/pty.other", Rows.laid_cuecard_pty_other), ("unicode/utf8.first", Rows.laid_unicode_utf8_first)]; simp)
  obtain ⟨ga, ta, ca, fa, pa, a1, a2, a3, a4⟩ := laidVars_mem (n := "unicode/utf8.acceptRanges") (d := Rows.laid_unicode_utf8_acceptRanges) hv (by show _ ∈ [("math/bits.deBruijn32tab", Rows.laid_math_bits_deBruijn32tab), ("math/bits.deBruijn64tab", Rows.laid_math_bits_deBruijn64tab), ("internal/strconv.uint64pow10", Rows.laid_internal_strconv_uint64pow10), ("unicode/utf8.acceptRanges", Rows.laid_unicode_utf8_acceptRanges), ("strconv.ErrRange", Rows.laid_strconv_ErrRange), ("strconv.ErrSyntax", Rows.laid_strconv_ErrSyntax), ("cuecard/pty.other", Rows.laid_cuecard_pty_other), ("unicode/utf8.first", Rows.laid_unicode_utf8_first)]; simp)
  obtain ⟨_, _, hacc⟩ := var_heap gAcc a3
  have hsz := (Array.getElem?_eq_some_iff.1 hacc).1
  obtain rfl := Option.some.inj (gOther.symm.trans e1)
  obtain rfl := Option.some.inj (tOther.symm.trans e2)
  have ho := other_cells e4
  obtain ⟨eo, fo, hho⟩ := var_heap gOther e3
  have hd : funcsAt Tryz.prog W "cuecard/interp.deeds" ((Rows.laid_cuecard_interp_deeds : DataW Unit).funcsIn?.getD .nil) := hf ("cuecard/interp.deeds", Rows.laid_cuecard_interp_deeds) (by simp)
  have hw : funcsAt Tryz.prog W "cuecard/replay.ways" ((Rows.laid_cuecard_replay_ways : DataW Unit).funcsIn?.getD .nil) := hf ("cuecard/replay.ways", Rows.laid_cuecard_replay_ways) (by simp)
  obtain ⟨g2, t2, c2, f2, p2, b1, b2, b3, b4⟩ := hd
  obtain rfl := Option.some.inj (gDeeds.symm.trans b1)
  obtain rfl := Option.some.inj (tDeeds.symm.trans b2)
  have hdc := deeds_cells rfl b4
  obtain ⟨ed, fd, hhd⟩ := var_heap gDeeds b3
  obtain ⟨g0, t0, c0, f0, p0, d1, d2, d3, d4⟩ := hw
  obtain rfl := Option.some.inj (gWays.symm.trans d1)
  obtain rfl := Option.some.inj (tWays.symm.trans d2)
  have hwc := ways_cells rfl d4
  obtain ⟨ew, fw, hhw⟩ := var_heap gWays d3
  refine ⟨by omega, ⟨ew, fw, ?_⟩, ⟨eo, fo, ?_⟩, ⟨ed, fd, ?_⟩⟩
  · rw [hhw]; congr 2; exact Array.ext' hwc
  · rw [hho]; congr 2; exact Array.ext' ho
  · rw [hhd]; congr 2; exact Array.ext' hdc
end Go.Proofs.YtbdknddgfmoipaaGreatDoor.topRec
