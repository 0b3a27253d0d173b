import Derived.Lib.Hide
import Derived.Test.YtjcaflhlilckgaaPBackT
namespace Go.Proofs.Ytjcaflhlilckgaa.QA
open Go.RowKit Go.Proofs.YtjcaflhlilckgaaW.PrintWords Go.Proofs.YtjcaflhlilckgaaW.PrintMore
set_option linter.unusedVariables false
set_option linter.unusedSimpArgs false
/-! ### plain: the document's turns, byte by byte -/
def RI (s : (List S33 × S33) × Option Int) (out : List S33) (last : Int) : Prop :=
  (s = st0 ∧ out = [] ∧ last = 1) ∨ ∃ d : Int, s.2 = some d ∧ (d = 0 ∨ d = 1) ∧ last = d ∧ out = s.1.1 ++ [s.1.2] ∧ full s.1.2 ∧ (d = 0 → s.1.2.f1 = [])
theorem ri_new {s : (List S33 × S33) × Option Int} {out : List S33} {last d : Int} (h : RI s out last) (hd : d = 0 ∨ d = 1) (hn : out = [] ∨ (d = 0 ∧ last = 1)) (b : Int) :
    RI (dst s ⟨d, 0, [b]⟩) (out ++ [if d = 0 then ⟨[b], []⟩ else ⟨[], [b]⟩]) d := by
  obtain ⟨⟨o, cur⟩, lst⟩ := s
  rcases h with ⟨hs, rfl, rfl⟩ | ⟨d', h1, h2, rfl, rfl, hf, h6⟩
  · rw [hs]
    have e : dst st0 ⟨d, 0, [b]⟩ = (tstep ([], ⟨[], []⟩) ⟨d, 0, [b]⟩, some d) := by unfold st0; exact dst_new _ _ _ _ _ _ (by simp) (by simp)
    rw [e]
    refine .inr ⟨d, rfl, hd, rfl, ?_, ?_, ?_⟩
    · unfold tstep
      rcases hd with rfl | rfl <;> simp [full]
    · unfold tstep full
      rcases hd with rfl | rfl <;> simp
    · intro h0
      subst h0
      unfold tstep
      simp
  · simp only at h1 hf h6
    subst h1
    rcases hn with hn | ⟨rfl, rfl⟩
    · simp at hn
    · have e : dst ((o, cur), some 1) ⟨0, 0, [b]⟩ = (tstep (o, cur) ⟨0, 0, [b]⟩, some 0) := dst_new _ _ _ _ _ _ (by simp) (by simp)
      rw [e]
      refine .inr ⟨0, rfl, .inl rfl, rfl, ?_, ?_, ?_⟩
      · unfold tstep
        simp [hf]
      · unfold tstep full
        simp
      · intro _
        unfold tstep
        simp
theorem ri_on {s : (List S33 × S33) × Option Int} {L : List S33} {t : S33} {last d : Int} (h : RI s (L ++ [t]) last) (hd : d = 0 ∨ d = 1) (hn : ¬ (d = 0 ∧ last = 1)) (b : Int) :
    RI (dst s ⟨d, 0, [b]⟩) (L ++ [if d = 0 then ⟨t.f0 ++ [b], t.f1⟩ else ⟨t.f0, t.f1 ++ [b]⟩]) d := by
  obtain ⟨⟨o, cur⟩, lst⟩ := s
  rcases h with ⟨hs, h0, _⟩ | ⟨d', h1, h2, rfl, h4, hf, h6⟩
  · simp at h0
  · simp only at h1 hf h6 h4
    subst h1
    obtain ⟨rfl, h5⟩ := List.append_inj' h4 rfl
    simp only [List.cons.injEq, and_true] at h5
    subst h5
    by_cases hs : last = d
    · subst hs
      have e : dst ((L, t), some last) ⟨last, 0, [b]⟩ = (joined (L, t) ⟨last, 0, [b]⟩, some last) := by
        unfold dst
        rw [if_neg (by simp), if_pos rfl]
      rw [e]
      refine .inr ⟨last, rfl, hd, rfl, ?_, ?_, fun h0 => ?_⟩
      · unfold joined
        rcases hd with rfl | rfl <;> simp
      · unfold joined full at *
        rcases hd with rfl | rfl <;> (simp; omega)
      · unfold joined
        subst h0
        simpa using h6 rfl
    · have e : dst ((L, t), some last) ⟨d, 0, [b]⟩ = (tstep (L, t) ⟨d, 0, [b]⟩, some d) := dst_new _ _ _ _ _ _ (by simp) (by simpa using hs)
      rw [e]
      have hd1 : d = 1 := by omega
      have hl0 : last = 0 := by omega
      subst hd1; subst hl0
      have hz := h6 rfl
      refine .inr ⟨1, rfl, .inr rfl, rfl, ?_, ?_, fun h0 => by omega⟩
      · unfold tstep
        simp [hz]
      · unfold tstep full
        simp
theorem ri_end {l : List S37} {out : List S33} {last : Int} (h : RI ((dirs l).foldl dst st0) out last) : out = trn l := by
  unfold trn
  generalize (dirs l).foldl dst st0 = s at h
  obtain ⟨⟨o, cur⟩, lst⟩ := s
  rcases h with ⟨hs, rfl, _⟩ | ⟨d', h1, h2, h3, rfl, hf, h6⟩
  · rw [hs]
    unfold st0 fin full
    simp
  · unfold fin
    rw [if_pos hf]
theorem dst_none (s : (List S33 × S33) × Option Int) (d t : Int) : dst s ⟨d, t, []⟩ = s := if_pos rfl
theorem dst_time (s : (List S33 × S33) × Option Int) (d t t' : Int) (b : List Int) : dst s ⟨d, t, b⟩ = dst s ⟨d, t', b⟩ := by
  have := dst_split s d 0 t t' [] b
  rwa [dst_none, List.nil_append] at this
theorem dirs_step {l : List S37} {i : Nat} (h : i < l.length) : (dirs (l.take (i + 1))).foldl dst st0 = if l[i].f0 = 0 ∨ l[i].f0 = 1 then dst ((dirs (l.take i)).foldl dst st0) ⟨l[i].f0, 0, l[i].f2⟩ else (dirs (l.take i)).foldl dst st0 := by
  rw [List.take_succ_eq_append_getElem h, dirs_append, List.foldl_append]
  by_cases hd : l[i].f0 = 0 ∨ l[i].f0 = 1
  · rw [if_pos hd, show dirs [l[i]] = [l[i]] by unfold dirs; rw [List.filter_cons_of_pos (by simpa using hd)]; rfl, List.foldl_cons, List.foldl_nil]
    exact dst_time _ _ _ _ _
  · rw [if_neg hd, show dirs [l[i]] = [] by unfold dirs; rw [List.filter_cons_of_neg (by simpa using hd)]; rfl, List.foldl_nil]
theorem dst_byte (s : (List S33 × S33) × Option Int) (d : Int) (b : List Int) {k : Nat} (h : k < b.length) : dst s ⟨d, 0, b.take (k + 1)⟩ = dst (dst s ⟨d, 0, b.take k⟩) ⟨d, 0, [b[k]]⟩ := by
  rw [dst_split s d 0 0 0, List.take_succ_eq_append_getElem h]
end Go.Proofs.Ytjcaflhlilckgaa.QA
