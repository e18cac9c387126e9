/- Loops with two or three variables; what is known behind some parts of a text. Nothing of the program. -/
import Derived.Test.YtemihhkbieplmaaM6
set_option linter.unusedVariables false
set_option linter.unusedSimpArgs false
namespace Go.Proofs.Ytemihhkbieplmaa
open Go.RowKit

section
variable {P : Program} {c : Fam} {Q : Exit → AS → Prop} {s : AS}
theorem awp_loopL2 {α β : Type} {body : Code} (sl : α → β → List (Nat × AV)) (ml : α → β → List (Nat × Blk)) (J : α → β → Prop) (μ : α → β → Nat) (x0 : α) (y0 : β) (hJ : J x0 y0) (h0 : leF s (sl x0 y0)) (h1 : leM s (ml x0 y0))
    (round : ∀ x y, J x y → AWp P c body (ASeq (fun t => ∃ x' y', J x' y' ∧ μ x' y' < μ x y ∧ leF t (sl x' y') ∧ leM t (ml x' y')) Q) ⟨frL (sl x y), memL (ml x y)⟩) : AWp P c (.loop body) Q s :=
  awp_loopL (fun x : α × β => sl x.1 x.2) (fun x => ml x.1 x.2) (fun x => J x.1 x.2) (fun x => μ x.1 x.2) (x0, y0) hJ h0 h1 fun ⟨x, y⟩ h => awp_mono (round x y h) fun e t h => by
    cases e with
    | normal => obtain ⟨x', y', h1, h2, h3, h4⟩ := h; exact ⟨(x', y'), h1, h2, h3, h4⟩
    | _ => exact h
theorem awp_loopL3 {α β γ : Type} {body : Code} (sl : α → β → γ → List (Nat × AV)) (ml : α → β → γ → List (Nat × Blk)) (J : α → β → γ → Prop) (μ : α → β → γ → Nat) (x0 : α) (y0 : β) (z0 : γ) (hJ : J x0 y0 z0) (h0 : leF s (sl x0 y0 z0)) (h1 : leM s (ml x0 y0 z0))
    (round : ∀ x y z, J x y z → AWp P c body (ASeq (fun t => ∃ x' y' z', J x' y' z' ∧ μ x' y' z' < μ x y z ∧ leF t (sl x' y' z') ∧ leM t (ml x' y' z')) Q) ⟨frL (sl x y z), memL (ml x y z)⟩) : AWp P c (.loop body) Q s :=
  awp_loopL (fun x : α × β × γ => sl x.1 x.2.1 x.2.2) (fun x => ml x.1 x.2.1 x.2.2) (fun x => J x.1 x.2.1 x.2.2) (fun x => μ x.1 x.2.1 x.2.2) (x0, y0, z0) hJ h0 h1 fun ⟨x, y, z⟩ h => awp_mono (round x y z h) fun e t h => by
    cases e with
    | normal => obtain ⟨x', y', z', h1, h2, h3, h4⟩ := h; exact ⟨(x', y', z'), h1, h2, h3, h4⟩
    | _ => exact h
end
section
variable {P : Program} {c : Fam} {Q : Exit → AS → Prop} {s : AS}
/-- What is known behind some parts of a text is told once. -/
theorem awp_joinQ {x b rest : Code} (T : AS → Prop) (h1 : AWp P c x (ASeq (AWp P c b (ASeq T Q)) Q) s) (h2 : ∀ t, T t → AWp P c rest Q t) : AWp P c x (ASeq (AWp P c (.seq b rest) Q) Q) s :=
  awp_mono h1 fun e t h => by
    cases e with
    | normal => exact awp_seq (awp_mono h fun e t h => by
        cases e with
        | normal => exact h2 t h
        | _ => exact h)
    | _ => exact h
theorem awp_seqK {x y : Code} (T : AS → Prop) (h1 : AWp P c x (ASeq T Q) s) (h2 : ∀ t, T t → AWp P c y Q t) : AWp P c (.seq x y) Q s := awp_seq (awp_mono h1 fun e t h => by
  cases e with
  | normal => exact h2 t h
  | _ => exact h)
theorem awp_join2 {x b rest : Code} (T : AS → Prop) (h1 : AWp P c x (ASeq (AWp P c b (ASeq T Q)) Q) s) (h2 : ∀ t, T t → AWp P c rest Q t) : AWp P c (.seq x (.seq b rest)) Q s := awp_seq (awp_joinQ T h1 h2)
end

end Go.Proofs.Ytemihhkbieplmaa
