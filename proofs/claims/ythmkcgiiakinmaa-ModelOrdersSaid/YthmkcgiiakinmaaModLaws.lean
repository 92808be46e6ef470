/-
  The laws of chapter 16, on plain lists: the log's own order, heads. No condition.
-/
import Derived.Test.YthmkcgiiakinmaaModLaw
namespace Go.Ren
set_option linter.unusedVariables false
theorem natL_len {L : Lg} (h : mayL L = true) : (natL L).length = L.ev.length := by unfold natL; rw [if_pos h]; simp
theorem natL_get {L : Lg} (h : mayL L = true) {j : Nat} (hj : j < L.ev.length) : (natL L).getD j (-1) = j := by unfold natL; rw [if_pos h]; simp [hj]
theorem nat_posK {L : Lg} (h : mayL L = true) {i k : Nat} (hi : i ≤ L.ev.length) (hk : i ≤ k) : posK (natL L) i k = -1 := fstN_none fun j hj => by
  rw [natL_get h (by omega)]; simp; omega
theorem nat_posI {L : Lg} (h : mayL L = true) {k : Nat} (hk : k < L.ev.length) : posI (natL L) k = k := by
  unfold posI posK
  rw [natL_len h]
  exact fstN_hit hk (fun j hj => by rw [natL_get h (by omega)]; simp; omega) (by rw [natL_get h hk]; simp)
theorem nat_plOk {L : Lg} (h : mayL L = true) : plOk L.ev.length (natL L) = true := by
  unfold plOk
  rw [Bool.and_eq_true, decide_eq_true_eq, allN_iff]
  refine ⟨natL_len h, fun i hi => ?_⟩
  rw [natL_len h] at hi
  unfold plStep
  rw [natL_get h hi, Int.toNat_natCast, nat_posK h (by omega) (Nat.le_refl _)]
  simp; omega
theorem nat_ordB {L : Lg} (h : mayL L = true) : ordB L (natL L) = true := by
  unfold ordB
  rw [h, nat_plOk h, Bool.true_and, Bool.true_and, List.all_eq_true]
  intro p hp
  obtain ⟨a, b, rfl, ha, hb, hr⟩ := mem_listR.1 hp
  unfold ordP
  dsimp only
  rw [Int.toNat_natCast, Int.toNat_natCast, nat_posI h ha, nat_posI h hb, decide_eq_true_eq]
  have := (hbB_lt hr).1
  omega
/-! ModelSeq. -/
def eqP (L : Lg) (i : Nat) : Bool := anyB (fun k => evEq (evn L.ev i) (evn L.ev k)) i
theorem seq_ato {L : Lg} (h : mayL L = true) (hs : anyB (fun i => (evn L.ev i).seq) L.ev.length = false) : atoI L (natL L) = -1 := by
  unfold atoI
  rw [if_pos (nat_ordB h)]
  refine fstN_none fun r hr => anyB_none.2 fun i hi => ?_
  unfold atoQ
  have : anyB (atoP L (natL L) r (frn L r i).toNat) L.ev.length = false := anyB_none.2 fun v hv => by
    unfold atoP; rw [anyB_none.1 hs v hv]; simp
  rw [this, Bool.and_false]
theorem eq_tear {L : Lg} (h : mayL L = true) (he : anyB (eqP L) L.ev.length = false) : tearI L = -1 := by
  unfold tearI
  rw [if_pos h]
  refine fstN_none fun r hr => anyB_none.2 fun j hj => anyB_none.2 fun i hi => ?_
  have hq : qP L r i = false := by
    rcases frn_may h hr (i := i) (by omega) with e | ⟨a, e, ha⟩
    · unfold qP; rw [e]; simp
    · unfold qP
      rw [e, Int.toNat_natCast, anyB_none.1 (anyB_none.1 he r hr) a ha]
      simp
  rw [hq]; rfl
/-! Heads. -/
theorem fstN_head {p : Nat → Bool} {m n : Nat} (h : m ≤ n) : (0 ≤ fstN p m → fstN p n = fstN p m) ∧ (0 ≤ fstN p n → fstN p n < m → fstN p m = fstN p n) ∧ (fstN p n = -1 → fstN p m = -1) := by
  rcases fstN_cases p n with ⟨h1, h2⟩ | ⟨k, h1, h2, h3, h4⟩
  · have e := fstN_none (p := p) (n := m) fun j hj => h2 j (by omega)
    exact ⟨fun h' => by omega, fun h' => by omega, fun _ => e⟩
  · by_cases hk : k < m
    · have e := fstN_hit hk h4 h3
      exact ⟨fun _ => by rw [h2, e], fun _ _ => by rw [h2, e], fun h' => by omega⟩
    · have e := fstN_none (p := p) (n := m) fun j hj => h4 j (by omega)
      exact ⟨fun h' => by omega, fun _ h' => by omega, fun h' => by omega⟩
section
variable {L : Lg} {n : Int}
theorem head_frn {r : Nat} (hr : r < headN L n) (i : Nat) : frn (headL L n) r i = frn L r i := by unfold frn; rw [head_evn' hr]
theorem anyB_cut {p q : Nat → Bool} {m n : Nat} (h : m ≤ n) (e : ∀ i, i < m → p i = q i) (z : ∀ i, m ≤ i → i < n → q i = false) : anyB p m = anyB q n := by
  rw [Bool.eq_iff_iff, anyB_iff, anyB_iff]
  constructor
  · rintro ⟨i, hi, hp⟩; exact ⟨i, by omega, by rw [← e i hi]; exact hp⟩
  · rintro ⟨i, hi, hp⟩
    by_cases hm : i < m
    · exact ⟨i, hm, by rw [e i hm]; exact hp⟩
    · rw [z i (by omega) hi] at hp; cases hp
theorem head_cohB (hm : mayL L = true) {r : Nat} (hr : r < headN L n) : cohB (headL L n) r = cohB L r := by
  have hle := headN_le L n
  unfold cohB
  rw [head_evn' hr]
  refine anyB_congr fun i hi => ?_
  unfold cohP
  rw [head_frn hr, head_evn' hr, head_evlen]
  have hw := frn_may hm (r := r) (by omega) hi
  congr 1
  · rcases hw with e | ⟨a, e, ha⟩
    · rw [e]; unfold hasB; simp
    · rw [e, hasB_nat hr (by omega), hasB_nat (by omega) (by omega), head_hb (by omega)]
  · unfold hidB
    rw [head_evlen]
    refine anyB_cut hle (fun v hv => ?_) (fun v h1 h2 => ?_)
    · unfold hidP
      rw [head_evn' hv, head_evn' hr, head_hb hr, head_evlen]
      congr 2
      rcases hw with e | ⟨a, e, ha⟩
      · rw [e]; unfold hasB; simp
      · rw [e, hasB_nat (by omega) hv, hasB_nat (by omega) (by omega), head_hb hv]
    · unfold hidP
      have : hbB L v r = false := by
        cases hh : hbB L v r with
        | false => rfl
        | true => have := (hbB_lt hh).1; omega
      rw [this]; simp
theorem head_cohI (hm : mayL L = true) : cohI (headL L n) = fstN (cohB L) (headN L n) := by
  unfold cohI
  rw [if_pos (mayL_head hm n), head_evlen]
  exact fstN_congr fun r hr => head_cohB hm hr
theorem head_qP (hm : mayL L = true) {r i : Nat} (hr : r < headN L n) (hi : i < (evn L.ev r).fr.length) : qP (headL L n) r i = qP L r i := by
  have hle := headN_le L n
  unfold qP
  rw [head_frn hr, head_evn' hr]
  rcases frn_may hm (r := r) (by omega) hi with e | ⟨a, e, ha⟩
  · rw [e]; simp
  · rw [e, Int.toNat_natCast, head_evn' (by omega)]
theorem head_tearB (hm : mayL L = true) {r : Nat} (hr : r < headN L n) : tearB (headL L n) r = tearB L r := by
  unfold tearB
  rw [head_evn' hr]
  refine anyB_congr fun j hj => ?_
  unfold tearP
  refine anyB_congr fun i hi => ?_
  rw [head_qP hm hr (by omega), head_qP hm hr hj, head_frn hr, head_frn hr]
theorem head_tearI (hm : mayL L = true) : tearI (headL L n) = fstN (tearB L) (headN L n) := by
  unfold tearI
  rw [if_pos (mayL_head hm n), head_evlen]
  exact fstN_congr fun r hr => head_tearB hm hr
theorem head_pastB {w v r : Nat} (hw : w < headN L n) (hv : v < headN L n) (hr : r < headN L n) : pastB (headL L n) w v r = pastB L w v r := by
  unfold pastB
  rw [head_syn hw hr, head_evn' hw, head_evn' hv, head_evn' hr, head_hb hr, head_hb hr, head_hb hv]
theorem head_atoB (hm : mayL L = true) {r : Nat} (hr : r < headN L n) : atoB (headL L n) (natL (headL L n)) r = atoB L (natL L) r := by
  have hle := headN_le L n
  have hmh := mayL_head hm n
  have hlen := head_evlen L n
  unfold atoB
  rw [head_evn' hr]
  refine anyB_congr fun i hi => ?_
  unfold atoQ
  rw [head_frn hr, head_evlen]
  rcases frn_may hm (r := r) (by omega) hi with e | ⟨a, e, ha⟩
  · rw [e]; rfl
  · rw [e, Int.toNat_natCast]
    congr 1
    refine anyB_cut hle (fun v hv => ?_) (fun v h1 h2 => ?_)
    · unfold atoP
      rw [head_evn' hv, nat_posI hmh (by omega), nat_posI hmh (by omega), nat_posI hmh (by omega), nat_posI hm (by omega), nat_posI hm (by omega), nat_posI hm (by omega), head_pastB (by omega) hv hr]
    · unfold atoP
      rw [nat_posI hm h2, nat_posI hm (k := r) (by omega)]
      have : decide ((v : Int) < (r : Int)) = false := by rw [decide_eq_false_iff_not]; omega
      rw [this]; simp
theorem head_valB (hm : mayL L = true) (h : valB L (natL L) = true) : valB (headL L n) (natL (headL L n)) = true := by
  have hle := headN_le L n
  unfold valB at h ⊢
  simp only [Bool.and_eq_true, decide_eq_true_eq] at h ⊢
  obtain ⟨⟨⟨⟨_, h1⟩, h2⟩, h3⟩, h4⟩ := h
  refine ⟨⟨⟨⟨mayL_head hm n, ?_⟩, ?_⟩, nat_ordB (mayL_head hm n)⟩, ?_⟩
  · rw [head_cohI hm]
    unfold cohI at h1
    rw [if_pos hm] at h1
    exact (fstN_head hle).2.2 h1
  · rw [head_tearI hm]
    unfold tearI at h2
    rw [if_pos hm] at h2
    exact (fstN_head hle).2.2 h2
  · unfold atoI at h4 ⊢
    rw [if_pos h3] at h4
    rw [if_pos (nat_ordB (mayL_head hm n)), head_evlen, fstN_congr (q := atoB L (natL L)) fun r hr => head_atoB hm hr]
    exact (fstN_head hle).2.2 h4
/-- What ModelHeads holds against one another. -/
theorem heads16 (hm : mayL L = true) : (0 ≤ cohI (headL L n) → cohI L = cohI (headL L n)) ∧ (0 ≤ tearI (headL L n) → tearI L = tearI (headL L n)) ∧ (0 ≤ cohI L → cohI L < (headN L n : Int) → cohI (headL L n) = cohI L) ∧ (0 ≤ tearI L → tearI L < (headN L n : Int) → tearI (headL L n) = tearI L) := by
  have hle := headN_le L n
  have e1 : cohI L = fstN (cohB L) L.ev.length := by unfold cohI; rw [if_pos hm]
  have e2 : tearI L = fstN (tearB L) L.ev.length := by unfold tearI; rw [if_pos hm]
  rw [head_cohI hm, head_tearI hm, e1, e2]
  exact ⟨(fstN_head hle).1, (fstN_head hle).1, (fstN_head hle).2.1, (fstN_head hle).2.1⟩
end
end Go.Ren
