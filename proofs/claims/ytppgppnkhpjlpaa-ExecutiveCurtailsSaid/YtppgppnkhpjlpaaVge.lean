/-
  A CALL's BEGINNING AND END; new rows of cells (make, a literal, append, copy).
-/
import Derived.Test.YtppgppnkhpjlpaaVgd
namespace Go.Vg
open Go.RowKit

section calls
variable {P : Program} {n : Nat} {f : Nat → Value} {w : World}

/-- what a result variable holds at the end -/
def Res1 (P : Program) (f : Nat → Value) (w : World) : ResultVar → Value → Prop
  | .tmp t, v => v = f t
  | .cell a T, v => ∃ b o cs, f a = .pointer (some ⟨b, o, none⟩) ∧ (∃ d, P.underlying T = some d) ∧ (∀ j u, cs[j]? = some u → w.cell? ⟨b, o + j, none⟩ = some u) ∧
      ((aggB P T = true ∧ (∃ by' z, TyI P T cs.length by' z) ∧ v = .agg cs.toArray) ∨ (aggB P T = false ∧ cs = [v]))

def Rets (P : Program) (f : Nat → Value) (w : World) : List ResultVar → List Value → Prop
  | [], [] => True
  | r :: rs, v :: vs => Res1 P f w r v ∧ Rets P f w rs vs
  | _, _ => False

def retv : List Value → Value
  | [v] => v
  | vs => .tuple vs.toArray

/-- how a result variable is read -/
def rdv (tmps : Array Value) : ResultVar → Sem Value
  | .tmp t => pure (tmps.getD t undef)
  | .cell ad T => do loadVar T (← asAddr (tmps.getD ad undef))

theorem run_res1 {a : Act} (ha : Fm n f a) {r : ResultVar} {v : Value} (h : Res1 P f w r v) :
    (rdv a.tmps r).run P w = .ok v w := by
  cases r with
  | tmp t =>
    have h' : v = f t := h
    rw [h', ← ha.2.2 t]
    rfl
  | cell ad T =>
    obtain ⟨b, o, cs, h1, ⟨d, hd⟩, h2, h3⟩ := h
    have e := ha.2.2 ad
    rw [h1] at e
    simp only [rdv, e]
    have hl := run_loadCells_list (P := P) w (⟨b, o, none⟩ : Addr) cs (fun j u hj => by rw [add_spotless]; exact h2 j u hj)
    rcases h3 with ⟨hb, ⟨by', z, ht⟩, rfl⟩ | ⟨hb, rfl⟩
    · obtain ⟨i, hi, _, hs, _⟩ := ht.ex
      simp [asAddr, loadVar, run_isAgg hd, hb, sizeOf, typeInfo, hi, hs, hl]
    · have hc := h2 0 v rfl
      simp only [Nat.add_zero] at hc
      simp [asAddr, loadVar, run_isAgg hd, hb, load, Sem.run, hc]

theorem run_rets {a : Act} (ha : Fm n f a) : ∀ {rs : List ResultVar} {vs : List Value}, Rets P f w rs vs →
    (rs.mapM (rdv a.tmps)).run P w = .ok vs w
  | [], [], _ => by simp
  | r :: rs, v :: vs, h => by
    have h1 := run_res1 ha h.1
    have h2 := run_rets ha h.2
    rw [List.mapM_cons]
    simp only [Sem.run_bind, h1, h2, Result.andThen_ok, Sem.run_pure]
  | [], _ :: _, h => h.elim
  | _ :: _, [], h => h.elim

theorem calls_of {k : FuncId} {fn : Func} {c : Code} {args : Array Value} {rs : List ResultVar} {R : Value → World → Prop} (hf : P.funcs[k]? = some fn) (hb : fn.body = some c) (hn : fn.ntmps = n) (hr : fn.results = rs.toArray) (hsz : args.size ≤ n)
    (h : WP P n c ⟨fun f w => ∃ vs, Rets P f w rs vs ∧ R (retv vs) w, fun _ _ _ => False, fun f w => ∃ vs, Rets P f w rs vs ∧ R (retv vs) w⟩ (fun i => args.getD i undef) w) :
    Calls P k args w fun e w' => ∃ v, e = .returned v ∧ R v w' := by
  have ha0 : Fm n (fun i => args.getD i undef) { tmps := args ++ Array.replicate (fn.ntmps - args.size) undef, defers := [] } := by
    refine ⟨rfl, by simp [hn]; omega, fun i => ?_⟩
    by_cases h1 : i < args.size
    · simp [Array.getD, h1, Array.getElem_append_left, Nat.lt_of_lt_of_le h1 (Nat.le_add_right _ _)]
    · by_cases h2 : i < n
      · have h3 : i < args.size + (fn.ntmps - args.size) := by omega
        simp only [Array.getD, Array.size_append, Array.size_replicate, h3, h1, dite_true, dite_false]
        simp [Array.getElem_append, h1]
      · have h3 : ¬ i < args.size + (fn.ntmps - args.size) := by omega
        simp only [Array.getD, Array.size_append, Array.size_replicate, h3, h1, dite_false]
  have fin : ∀ (a : Act) (f : Nat → Value) (w : World), Fm n f a → (∃ vs, Rets P f w rs vs ∧ R (retv vs) w) → a.defers = [] ∧ ∃ v, (results fn a.tmps).run P w = .ok v w ∧ ∃ u, Ending.returned v = .returned u ∧ R u w := by
    intro a f w ha ⟨vs, hv, hR⟩
    refine ⟨ha.1, retv vs, ?_, _, rfl, hR⟩
    have h1 := run_rets ha hv
    have e : results fn a.tmps = (do let vs ← fn.results.mapM (rdv a.tmps); pure (if h : vs.size = 1 then vs[0] else .tuple vs)) := rfl
    rw [e, hr, List.mapM_toArray]
    simp only [Sem.run_bind, Sem.run_map, h1, Result.andThen_ok, Sem.run_pure]
    congr 1
    match vs with
    | [] => rfl
    | [v] => rfl
    | v :: u :: vs => simp [retv]
  refine calls_of_wp hf hb (wp_mono (h _ ha0) fun e a w hq => ?_)
  cases e with
  | normal => obtain ⟨f, hf, hh⟩ := hq; exact fin a f w hf hh
  | ret => obtain ⟨f, hf, hh⟩ := hq; exact fin a f w hf hh
  | exit i => obtain ⟨f, hf, hh⟩ := hq; exact hh.elim
  | goto l => exact hq.elim
  | panic c => exact hq.elim
  | outgrown => exact hq.elim

/-- the frame under a name -/
theorem wset {c : Code} {Q : Po} (h : ∀ F, (∀ i, F i = f i) → WP P n c Q F w) : WP P n c Q f w := h f fun _ => rfl
end calls

/-- off the slots M the frame is as F -/
def Off (M : List Nat) (F f : Nat → Value) : Prop := ∀ i, M.contains i = false → f i = F i
theorem Off.refl (M : List Nat) (F : Nat → Value) : Off M F F := fun _ _ => rfl
theorem Off.st {M : List Nat} {F f : Nat → Value} (h : Off M F f) {d : Nat} (hd : M.contains d = true) (v : Value) : Off M F (st f d v) := fun i hi => by
  have hne : i ≠ d := fun e => by subst e; rw [hd] at hi; cases hi
  rw [st_other _ _ _ _ hne]
  exact h i hi

theorem Off.eq {M : List Nat} {G F f : Nat → Value} (hF : ∀ i, F i = f i) (h : Off M G f) : Off M G F := fun i hi => (hF i).trans (h i hi)
/-- what an inner loop leaves alone -/
theorem Off.via {M M' : List Nat} {G F f : Nat → Value} (h' : Off M' F f) (hM : (M'.all fun i => M.contains i) = true) (h : Off M G F) : Off M G f := fun i hi => by
  refine (h' i ?_).trans (h i hi)
  cases hc : M'.contains i with
  | false => rfl
  | true =>
    have := List.all_eq_true.1 hM i (by simpa using hc)
    rw [this] at hi
    cases hi

theorem int_eq {k : IntKind} {a b : Int} (h : a = b) : Value.int k a = .int k b := by rw [h]
theorem bool_eq {a b : Bool} (h : a = b) : Value.bool a = .bool b := by rw [h]
end Go.Vg
