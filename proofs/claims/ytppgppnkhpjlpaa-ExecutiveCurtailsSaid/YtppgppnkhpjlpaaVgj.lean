/-
  WHAT COMES IN: a row of integers, as the row kit opens it, read as a slice.
-/
import Derived.Test.YtppgppnkhpjlpaaVgi
import Derived.DataReads
namespace Go.Vg
open Go Go.RowKit
theorem Sg.of_row {k : IntKind} {w : World} {x : Addr} {len cap : Nat} {zs : List Int} (hl : len ≤ cap) (hm : cap ≤ maxLen) (hz : zs.length = cap) (hcell : ∀ i, i < zs.length → w.cell? (x.add i) = some (.int k (zs.getD i 0))) :
    Sg (gI k) (fun _ _ => True) w (.slice (some x) len cap) (zs.take len) := by
  have hlen : (zs.take len).length = len := by simp; omega
  refine ⟨some x, cap, by rw [hlen], by omega, hm, by simp, ?_⟩
  by_cases h0 : len = 0
  · subst h0; exact .inl (by simp)
  · right
    obtain ⟨b, o, spot⟩ := x
    have hc := hcell 0 (by omega)
    have hspot : spot = none := by simpa [Addr.add] using World.cell?_spot hc
    subst hspot
    refine ⟨b, o, rfl, .inr ?_⟩
    have hc' := hc
    unfold World.cell? at hc'
    rw [add_spotless] at hc'
    cases hb : w.heap[b]? with
    | none => rw [show ((⟨b, o + 0, none⟩ : Addr).block) = b from rfl, hb] at hc'; cases hc'
    | some ob =>
      cases ob with
      | cells cs T fz =>
        refine ⟨cs, T, fz, rfl, trivial, fun j u hj => ?_⟩
        have hjl : j < len := by
          rcases Nat.lt_or_ge j len with h | h
          · exact h
          · rw [List.getElem?_eq_none (by simp; omega)] at hj; cases hj
        have h1 := hcell j (by omega)
        rw [add_spotless] at h1
        unfold World.cell? at h1
        simp only [hb] at h1
        have h2 : cs[o + j]? = some (.int k (zs.getD j 0)) := by simpa using h1
        rw [h2]
        rw [List.getElem?_map, List.getElem?_take_of_lt hjl, List.getElem?_eq_getElem (by omega)] at hj
        simp only [Option.map_some] at hj
        rw [← hj]
        simp [show j < zs.length by omega]
      | _ => rw [show ((⟨b, o + 0, none⟩ : Addr).block) = b from rfl, hb] at hc'; cases hc'
end Go.Vg
