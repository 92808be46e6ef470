/-
  Logs in memory; the contract of event.reads. No condition.
-/
import Derived.Test.YtbhocahmhmafmaaGreatPEvAt
import Derived.Test.YtbhocahmhmafmaaGreatPPlan
import Derived.Deep.RegionWith
namespace Go.Proofs.YtbhocahmhmafmaaGreat
open Go.Ren Go.RowKit
set_option linter.unusedVariables false
def evcell (e : Ev) (v : Vs) (j : Nat) : Value := (evArr e v).getD j undef
def prcell (p : Int × Int) (j : Nat) : Value := if j = 0 then .int .i64 p.1 else .int .i64 p.2
structure LogIn (w : World) (ve vp : Value) (V : Nat → Vs) (L : Lg) : Prop where
 row : Sl w ve 10 L.ev.length (flat 10 L.ev.length (fun i j => evcell (evn L.ev i) (V i) j))
 ev : ∀ i, i < L.ev.length → EvAt w (evn L.ev i) (V i)
 prow : Sl w vp 2 L.pr.length (flat 2 L.pr.length (fun i j => prcell (prn L.pr i) j))
 pok : ∀ i, i < L.pr.length → I64 (prn L.pr i).1 ∧ I64 (prn L.pr i).2
theorem LogIn.ext {w w' : World} {ve vp : Value} {V : Nat → Vs} {L : Lg} (h : LogIn w ve vp V L) (x : Ext w w') : LogIn w' ve vp V L :=
 ⟨h.row.ext (by decide) x, fun i hi => (h.ev i hi).ext x, h.prow.ext (by decide) x, h.pok⟩
theorem LogIn.cells {w : World} {ve vp : Value} {V : Nat → Vs} {L : Lg} (h : LogIn w ve vp V L) {i : Nat} (hi : i < L.ev.length) :
 w.cell? (at_ ve (i * 10)) = some (.int .i64 (evn L.ev i).ag) ∧ w.cell? ⟨(at_ ve (i * 10)).block, (at_ ve (i * 10)).off + 1, none⟩ = some (.int .i64 (evn L.ev i).kind) ∧ w.cell? ⟨(at_ ve (i * 10)).block, (at_ ve (i * 10)).off + 2, none⟩ = some (.bool (evn L.ev i).seq) ∧
 w.cell? ⟨(at_ ve (i * 10)).block, (at_ ve (i * 10)).off + 3, none⟩ = some (.bool (evn L.ev i).nt) ∧ w.cell? ⟨(at_ ve (i * 10)).block, (at_ ve (i * 10)).off + 4, none⟩ = some (.int .i64 (evn L.ev i).blk) ∧ w.cell? ⟨(at_ ve (i * 10)).block, (at_ ve (i * 10)).off + 5, none⟩ = some (.int .i64 (evn L.ev i).at_) ∧
 w.cell? ⟨(at_ ve (i * 10)).block, (at_ ve (i * 10)).off + 6, none⟩ = some (.int .i64 (evn L.ev i).size) ∧ w.cell? ⟨(at_ ve (i * 10)).block, (at_ ve (i * 10)).off + 7, none⟩ = some (V i).r ∧ w.cell? ⟨(at_ ve (i * 10)).block, (at_ ve (i * 10)).off + 8, none⟩ = some (V i).w ∧ w.cell? ⟨(at_ ve (i * 10)).block, (at_ ve (i * 10)).off + 9, none⟩ = some (V i).f := by
 have g : ∀ j, j < 10 → (flat 10 L.ev.length (fun i j => evcell (evn L.ev i) (V i) j))[i * 10 + j]? = some (evcell (evn L.ev i) (V i) j) := fun j hj => flat_get (sz := 10) _ hi hj
 exact ⟨h.row.cell _ _ (g 0 (by decide)), h.row.cell_off (by decide) (g 1 (by decide)), h.row.cell_off (by decide) (g 2 (by decide)), h.row.cell_off (by decide) (g 3 (by decide)), h.row.cell_off (by decide) (g 4 (by decide)),
  h.row.cell_off (by decide) (g 5 (by decide)), h.row.cell_off (by decide) (g 6 (by decide)), h.row.cell_off (by decide) (g 7 (by decide)), h.row.cell_off (by decide) (g 8 (by decide)), h.row.cell_off (by decide) (g 9 (by decide))⟩
theorem LogIn.pcells {w : World} {ve vp : Value} {V : Nat → Vs} {L : Lg} (h : LogIn w ve vp V L) {i : Nat} (hi : i < L.pr.length) :
 w.cell? (at_ vp (i * 2)) = some (.int .i64 (prn L.pr i).1) ∧ w.cell? ⟨(at_ vp (i * 2)).block, (at_ vp (i * 2)).off + 1, none⟩ = some (.int .i64 (prn L.pr i).2) := by
 have g : ∀ j, j < 2 → (flat 2 L.pr.length (fun i j => prcell (prn L.pr i) j))[i * 2 + j]? = some (prcell (prn L.pr i) j) := fun j hj => flat_get (sz := 2) _ hi hj
 exact ⟨h.prow.cell _ _ (g 0 (by decide)), h.prow.cell_off (by decide) (g 1 (by decide))⟩
structure LogBox (w : World) (g : Nat) (ve vp : Value) : Prop where
 b : w.heap[g]? = some (.cells #[ve, vp] 48 (0, 0))
theorem LogBox.cells {w : World} {g : Nat} {ve vp : Value} (h : LogBox w g ve vp) : w.cell? ⟨g, 0, none⟩ = some ve ∧ w.cell? ⟨g, 1, none⟩ = some vp := by simp [World.cell?, h.b]
theorem upto_succ {p : Nat → Prop} {k : Nat} (h : ∀ j, j < k → p j) (hk : p k) : ∀ j, j < k + 1 → p j := fun j hj => by
 by_cases e : j = k
 · subst e; exact hk
 · exact h j (by omega)
end Go.Proofs.YtbhocahmhmafmaaGreat
