/- What laws of chains lean on: headers gathered, calls on a chain beside them. -/
import Derived.Test.YtmegpfjlijphoaaDoorW1
namespace Go.Jal
open Go.RowKit
theorem ask_seq {wr : Int} {hs : List Hdr} {H : Hdr} (h : askOf wr hs H = 0) : H.seq = hs.length + 1 ∧ H.writer = wr ∧ formed H = true ∧ H.prev = tipOf hs := by
  unfold askOf at h
  split at h
  · rename_i c
    have hs1 := (formed_nat c.1).2.2.2.2.2.2.2.1
    cases hm : hs[H.seq - 1]? with
    | some G => rw [hm] at h; simp only at h; split at h <;> cases h
    | none =>
      rw [hm] at h
      simp only at h
      have := List.getElem?_eq_none_iff.1 hm
      split at h
      · cases h
      · split at h
        · rename_i h1 h2
          exact ⟨by omega, c.2, c.1, h2⟩
        · cases h
  · cases h
theorem ask_again {wr : Int} {hs : List Hdr} {H : Hdr} (h : askOf wr hs H = 0) : askOf wr (hs ++ [H]) H = 13 := by
  obtain ⟨h1, h2, h3, h4⟩ := ask_seq h
  unfold askOf
  rw [if_pos ⟨h3, h2⟩, show H.seq - 1 = hs.length by omega, List.getElem?_append_right (Nat.le_refl _)]
  simp
end Go.Jal
namespace Go.Proofs.YtmegpfjlijphoaaDoor
open Go.RowKit Go.Jal
theorem tip_is (hs : List Hdr) : isB 32 (tipOf hs) := tip_ok ⟨fun _ => sha_len _, fun _ => sha_lt _⟩
theorem behind_ok {hs : List Hdr} {m : Nat} {H : Hdr} (h : H.Ok) (hm : m < 6) (hl : hs.length < 1000) : (behind hs m H).Ok := by
  refine ⟨?_, ?_, tip_is hs, h.epoch, h.time, h.item, h.toks, ?_, h.sum, h.size, h.code⟩
  · show -9223372036854775808 ≤ (m : Int) + 1 ∧ (m : Int) + 1 ≤ 9223372036854775807
    omega
  · show hs.length + 1 < 18446744073709551616
    omega
  · show (H.knows.set m hs.length).length = 6 ∧ ∀ x ∈ H.knows.set m hs.length, x < 18446744073709551616
    refine ⟨by rw [List.length_set]; exact h.knows.1, fun x hx => ?_⟩
    rcases List.mem_or_eq_of_mem_set hx with hx | rfl
    · exact h.knows.2 x hx
    · omega
/-- headers gathered: an array of one's own, the tokens the world's -/
def HaveO (W : World) (v : Value) (hs : List Hdr) (E : List (Nat × Obj)) : Prop :=
  ∃ g, Own 125 35 v hs.length g E ∧ ∀ i H, hs[i]? = some H → H.Ok ∧ ∃ tok, (∀ c, c < 125 → g (125 * i + c) = hF H tok c) ∧ Toks W tok H.toks
theorem HaveO.nil {W : World} : HaveO W (.slice none 0 0) [] [] := ⟨fun _ => nB 0, Own.nil, by intro i H h; simp at h⟩
theorem HaveO.hds {W w : World} {v : Value} {hs : List Hdr} {E L : List (Nat × Obj)} (h : HaveO W v hs E) (hst : St W [] L w) (hE : ∀ p ∈ E, w.heap[p.1]? = some p.2) : Hds w v hs := by
  obtain ⟨g, hown, hel⟩ := h
  rcases hown with ⟨rfl, hz, rfl⟩ | ⟨b, cap, f, rfl, hc, hm, rfl, hf⟩
  · have : hs = [] := List.length_eq_zero_iff.1 hz
    subst this
    exact ⟨none, 0, rfl, Nat.le_refl _, by simp [maxLen], (by intro H h; cases h), fun _ => rfl, fun h => absurd rfl h⟩
  · refine ⟨_, cap, rfl, hc, hm, fun H hH => ?_, (by intro e; cases e), fun _ => ⟨b, 0, cap * 125, f, rfl, ⟨_, _, hE (b, blk (cap * 125) f 35) (by simp)⟩, by omega, fun i H hi => ?_⟩⟩
    · obtain ⟨i, hi⟩ := List.getElem?_of_mem hH
      exact (hel i H hi).1
    · obtain ⟨hok, tok, hc1, hto⟩ := hel i H hi
      have hlt : i < hs.length := (List.getElem?_eq_some_iff.1 hi).1
      refine ⟨tok, hto.keep hst.none, fun c hc' => ?_⟩
      rw [show 0 + 125 * i + c = 125 * i + c by omega, hf _ (by omega), hc1 c hc']
theorem HaveO.slice {W : World} {v : Value} {hs : List Hdr} {E : List (Nat × Obj)} (h : HaveO W v hs E) : ∃ ad c, v = .slice ad hs.length c ∧ hs.length ≤ c ∧ c ≤ maxLen := by
  obtain ⟨g, hown, _⟩ := h
  obtain ⟨ad, c, e, h1, h2, _⟩ := hown.slice
  exact ⟨ad, c, e, h1, h2⟩
theorem HaveO.snoc {W : World} {v : Value} {hs : List Hdr} {H : Hdr} {tok : Value} {g : Nat → Value} {E : List (Nat × Obj)} (hown : Own 125 35 v (hs.length + 1) (glue (hs.length * 125) g (hF H tok)) E)
    (hel : ∀ i H, hs[i]? = some H → H.Ok ∧ ∃ tok, (∀ c, c < 125 → g (125 * i + c) = hF H tok c) ∧ Toks W tok H.toks) (hok : H.Ok) (ht : Toks W tok H.toks) : HaveO W v (hs ++ [H]) E := by
  refine ⟨_, by rw [List.length_append]; exact hown, fun i G hi => ?_⟩
  by_cases c : i < hs.length
  · rw [List.getElem?_append_left c] at hi
    obtain ⟨k1, tok', k3, k4⟩ := hel i G hi
    exact ⟨k1, tok', fun j hj => by rw [← k3 j hj]; unfold glue; rw [if_pos (by omega)], k4⟩
  · have hi2 : i < (hs ++ [H]).length := (List.getElem?_eq_some_iff.1 hi).1
    obtain rfl : i = hs.length := by simp at hi2; omega
    obtain rfl : H = G := by simpa using hi
    exact ⟨hok, tok, fun j hj => by unfold glue; rw [if_neg (by omega)]; congr 1; omega, ht⟩
theorem tok_one {w : World} {tok : Value} {ts : List (List Nat)} (h : Toks w tok ts) : tok.oneCell' = true := by
  obtain ⟨ad, c, rfl, _⟩ := h
  rfl
theorem add_law {W w : World} {b : Nat} {wr : Int} {hs : List Hdr} {H : Hdr} {tok : Value} {Ec L : List (Nat × Obj)} (hch : ChainO b wr hs Ec) (hst : St W [] (Ec ++ L) w) (hok : H.Ok) (ht : Toks W tok H.toks) (hK : Has W 1 64 (wF Sha.K)) (hlen : hs.length < 1000) :
    Ret Tryd.prog 16 #[.pointer (some ⟨b, 0, none⟩), .agg (row 125 (hF H tok))] w fun v' w' => v' = .int .i64 (askOf wr hs H) ∧ ∃ E', ChainO b wr (if askOf wr hs H = 0 then hs ++ [H] else hs) E' ∧ St W [] (E' ++ L) w' :=
  Ret.mono (add_any b wr hs H tok w Ec hch (fun p hp => hst.own p (List.mem_append_left _ hp)) (by have := hst.nodup; rw [List.map_append] at this; exact (List.nodup_append.1 this).1) hok
    (fun _ _ h => ht.keep (hst.callE h).none) (fun _ _ h => hK.keep (hst.callE h).none) hlen) fun v w' ⟨h1, E', h2, h3⟩ => ⟨h1, E', h2, hst.callE h3⟩
end Go.Proofs.YtmegpfjlijphoaaDoor
