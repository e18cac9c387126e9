/- Loops with two or three variables; what is known behind some parts of a text; regions by parts. Nothing of the program. -/
import Derived.Test.YtiabcffcbhlbiaaM6
set_option linter.unusedVariables false
set_option linter.unusedSimpArgs false
namespace Go.Proofs.Ytiabcffcbhlbiaa
open Go.RowKit

section
variable {P : Program} {c : Fam} {Q : Exit → AS → Prop} {s : AS}
theorem awp_loopL2 {α β : Type} {body : Code} (sl : α → β → List (Nat × AV)) (ml : α → β → List (Nat × Blk)) (J : α → β → Prop) (μ : α → β → Nat) (x0 : α) (y0 : β) (hJ : J x0 y0) (h0 : leF s (sl x0 y0)) (h1 : leM s (ml x0 y0))
    (round : ∀ x y, J x y → AWp P c body (ASeq (fun t => ∃ x' y', J x' y' ∧ μ x' y' < μ x y ∧ leF t (sl x' y') ∧ leM t (ml x' y')) Q) ⟨frL (sl x y), memL (ml x y)⟩) : AWp P c (.loop body) Q s :=
  awp_loopL (fun x : α × β => sl x.1 x.2) (fun x => ml x.1 x.2) (fun x => J x.1 x.2) (fun x => μ x.1 x.2) (x0, y0) hJ h0 h1 fun ⟨x, y⟩ h => awp_mono (round x y h) fun e t h => by
    cases e with
    | normal => obtain ⟨x', y', h1, h2, h3, h4⟩ := h; exact ⟨(x', y'), h1, h2, h3, h4⟩
    | _ => exact h
theorem awp_loopL3 {α β γ : Type} {body : Code} (sl : α → β → γ → List (Nat × AV)) (ml : α → β → γ → List (Nat × Blk)) (J : α → β → γ → Prop) (μ : α → β → γ → Nat) (x0 : α) (y0 : β) (z0 : γ) (hJ : J x0 y0 z0) (h0 : leF s (sl x0 y0 z0)) (h1 : leM s (ml x0 y0 z0))
    (round : ∀ x y z, J x y z → AWp P c body (ASeq (fun t => ∃ x' y' z', J x' y' z' ∧ μ x' y' z' < μ x y z ∧ leF t (sl x' y' z') ∧ leM t (ml x' y' z')) Q) ⟨frL (sl x y z), memL (ml x y z)⟩) : AWp P c (.loop body) Q s :=
  awp_loopL (fun x : α × β × γ => sl x.1 x.2.1 x.2.2) (fun x => ml x.1 x.2.1 x.2.2) (fun x => J x.1 x.2.1 x.2.2) (fun x => μ x.1 x.2.1 x.2.2) (x0, y0, z0) hJ h0 h1 fun ⟨x, y, z⟩ h => awp_mono (round x y z h) fun e t h => by
    cases e with
    | normal => obtain ⟨x', y', z', h1, h2, h3, h4⟩ := h; exact ⟨(x', y', z'), h1, h2, h3, h4⟩
    | _ => exact h
end
section
variable {P : Program} {c : Fam} {Q : Exit → AS → Prop} {s : AS}
/-- What is known behind some parts of a text is told once. -/
theorem awp_joinQ {x b rest : Code} (T : AS → Prop) (h1 : AWp P c x (ASeq (AWp P c b (ASeq T Q)) Q) s) (h2 : ∀ t, T t → AWp P c rest Q t) : AWp P c x (ASeq (AWp P c (.seq b rest) Q) Q) s :=
  awp_mono h1 fun e t h => by
    cases e with
    | normal => exact awp_seq (awp_mono h fun e t h => by
        cases e with
        | normal => exact h2 t h
        | _ => exact h)
    | _ => exact h
theorem awp_seqK {x y : Code} (T : AS → Prop) (h1 : AWp P c x (ASeq T Q) s) (h2 : ∀ t, T t → AWp P c y Q t) : AWp P c (.seq x y) Q s := awp_seq (awp_mono h1 fun e t h => by
  cases e with
  | normal => exact h2 t h
  | _ => exact h)
theorem awp_join2 {x b rest : Code} (T : AS → Prop) (h1 : AWp P c x (ASeq (AWp P c b (ASeq T Q)) Q) s) (h2 : ∀ t, T t → AWp P c rest Q t) : AWp P c (.seq x (.seq b rest)) Q s := awp_seq (awp_joinQ T h1 h2)
end


/-- A state says the same as another one, or more, for some x. -/
def TurnsE (c : Fam) (s : AS) {α : Type} (T : α → AS) : Prop := ∀ φ a w, RF c s φ a w → ∃ x φ', RF c (T x) φ' a w
theorem awp_turn {P : Program} {c : Fam} {code : Code} {Q : Exit → AS → Prop} {s : AS} {α : Type} {T : α → AS} (ht : TurnsE c s T) (h : ∀ x, AWp P c code Q (T x)) : AWp P c code Q s :=
  ⟨fun φ a w hR => let ⟨x, φ', h'⟩ := ht φ a w hR; (h x).run φ' a w h'⟩

/-- A region in the order of the text, from the operations l on. -/
structure WpL (P : Program) (ops : Array Oper) (c : Fam) (l : List Oper) (Q : Exit → AS → Prop) (s : AS) : Prop where
  run : ∀ pre, ops.toList = pre ++ l → ∀ φ a w, RF c s φ a w → wpOpsIn (fz c.rd) 0 P ops (fun e a w => ∃ t φ, Q e t ∧ RF c t φ a w) (List.range' pre.length l.length) a w
section
variable {P : Program} {ops : Array Oper} {c : Fam} {l : List Oper} {Q : Exit → AS → Prop} {s : AS}
theorem awp_regionL {id : Nat} (h : WpL P l.toArray c l Q s) : AWp P c (.region id l.toArray false) Q s := ⟨fun φ a w hR => by
  refine wpIn_region ?_
  have := h.run [] (by simp) φ a w hR
  simpa [List.range_eq_range'] using this⟩
theorem wpl_nil (h : Q .normal s) : WpL P ops c [] Q s := ⟨fun pre hp φ a w hR => by
  show wpOpsIn (fz c.rd) 0 P ops _ [] a w
  exact ⟨s, φ, h, hR⟩⟩
theorem wpl_turn {α : Type} {T : α → AS} (ht : TurnsE c s T) (h : ∀ x, WpL P ops c l Q (T x)) : WpL P ops c l Q s :=
  ⟨fun pre hp φ a w hR => let ⟨x, φ', h'⟩ := ht φ a w hR; (h x).run pre hp φ' a w h'⟩
theorem wpl_run {l1 l2 : List Oper} (hl : l = l1 ++ l2) (hd : dstsB c.nt l1 = true) (h : RunT P ops l1 s fun _ t => WpL P ops c l2 Q t) : WpL P ops c l Q s := ⟨fun pre hp φ a w ⟨c', hG, hR⟩ => by
  subst hl
  have hg : ∀ i : Nat, ops[i]? = (pre ++ (l1 ++ l2))[i]? := fun i => by rw [← hp, Array.getElem?_toList]
  rw [List.length_append, ← List.range'_append_1, ← (c.eq _ hG).2]
  refine runT_on (c := c') l1 (List.range' pre.length l1.length) _ s _ (fun k hk => ?_) (by simp) (dstsB_spec l1 (by rw [(c.eq _ hG).1]; exact hd)) h φ a w hR fun rs t φ' a' w' hk hR' => ?_
  · rw [List.getElem?_range' (by omega), Option.bind_some, hg, List.getElem?_append_right (by omega), List.getElem?_append_left (by omega)]
    congr 1; omega
  · have := WpL.run hk (pre ++ l1) (by rw [hp, List.append_assoc]) φ' a' w' ⟨c', hG, hR'⟩
    rw [(c.eq _ hG).2]
    simpa using this⟩
end

theorem turns_freeze {c : Fam} {s : AS} (nm : Nat) {blk : Blk} (hn : s.mem nm = some blk) : TurnsE c s fun (_ : Unit) => s.freeze nm blk.cells := fun φ a w ⟨c', hG, hR⟩ => ⟨(), φ, c', hG, hR.freeze hn⟩

end Go.Proofs.Ytiabcffcbhlbiaa
