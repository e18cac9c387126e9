/- Merged: XMj XM7 XM8 XM9. -/
import Derived.Test.YtgjhikjnlcbmkaaM6
set_option linter.unusedVariables false
set_option linter.unusedSimpArgs false
/- Loops with two or three variables; what is known behind some parts of a text; regions by parts. Nothing of the program. -/
namespace Go.Proofs.Ytgjhikjnlcbmkaa
open Go.RowKit

section
variable {P : Program} {c : Fam} {Q : Exit → AS → Prop} {s : AS}
theorem awp_loopL2 {α β : Type} {body : Code} (sl : α → β → List (Nat × AV)) (ml : α → β → List (Nat × Blk)) (J : α → β → Prop) (μ : α → β → Nat) (x0 : α) (y0 : β) (hJ : J x0 y0) (h0 : leF s (sl x0 y0)) (h1 : leM s (ml x0 y0))
    (round : ∀ x y, J x y → AWp P c body (ASeq (fun t => ∃ x' y', J x' y' ∧ μ x' y' < μ x y ∧ leF t (sl x' y') ∧ leM t (ml x' y')) Q) ⟨frL (sl x y), memL (ml x y)⟩) : AWp P c (.loop body) Q s :=
  awp_loopL (fun x : α × β => sl x.1 x.2) (fun x => ml x.1 x.2) (fun x => J x.1 x.2) (fun x => μ x.1 x.2) (x0, y0) hJ h0 h1 fun ⟨x, y⟩ h => awp_mono (round x y h) fun e t h => by
    cases e with
    | normal => obtain ⟨x', y', h1, h2, h3, h4⟩ := h; exact ⟨(x', y'), h1, h2, h3, h4⟩
    | _ => exact h
theorem awp_loopL3 {α β γ : Type} {body : Code} (sl : α → β → γ → List (Nat × AV)) (ml : α → β → γ → List (Nat × Blk)) (J : α → β → γ → Prop) (μ : α → β → γ → Nat) (x0 : α) (y0 : β) (z0 : γ) (hJ : J x0 y0 z0) (h0 : leF s (sl x0 y0 z0)) (h1 : leM s (ml x0 y0 z0))
    (round : ∀ x y z, J x y z → AWp P c body (ASeq (fun t => ∃ x' y' z', J x' y' z' ∧ μ x' y' z' < μ x y z ∧ leF t (sl x' y' z') ∧ leM t (ml x' y' z')) Q) ⟨frL (sl x y z), memL (ml x y z)⟩) : AWp P c (.loop body) Q s :=
  awp_loopL (fun x : α × β × γ => sl x.1 x.2.1 x.2.2) (fun x => ml x.1 x.2.1 x.2.2) (fun x => J x.1 x.2.1 x.2.2) (fun x => μ x.1 x.2.1 x.2.2) (x0, y0, z0) hJ h0 h1 fun ⟨x, y, z⟩ h => awp_mono (round x y z h) fun e t h => by
    cases e with
    | normal => obtain ⟨x', y', z', h1, h2, h3, h4⟩ := h; exact ⟨(x', y', z'), h1, h2, h3, h4⟩
    | _ => exact h
end
section
variable {P : Program} {c : Fam} {Q : Exit → AS → Prop} {s : AS}
theorem awp_seqK {x y : Code} (T : AS → Prop) (h1 : AWp P c x (ASeq T Q) s) (h2 : ∀ t, T t → AWp P c y Q t) : AWp P c (.seq x y) Q s := awp_seq (awp_mono h1 fun e t h => by
  cases e with
  | normal => exact h2 t h
  | _ => exact h)
end


def TurnsE (c : Fam) (s : AS) {α : Type} (T : α → AS) : Prop := ∀ φ a w, RF c s φ a w → ∃ x φ', RF c (T x) φ' a w
theorem awp_turn {P : Program} {c : Fam} {code : Code} {Q : Exit → AS → Prop} {s : AS} {α : Type} {T : α → AS} (ht : TurnsE c s T) (h : ∀ x, AWp P c code Q (T x)) : AWp P c code Q s :=
  ⟨fun φ a w hR => let ⟨x, φ', h'⟩ := ht φ a w hR; (h x).run φ' a w h'⟩

structure WpL (P : Program) (ops : Array Oper) (c : Fam) (l : List Oper) (Q : Exit → AS → Prop) (s : AS) : Prop where
  run : ∀ pre, ops.toList = pre ++ l → ∀ φ a w, RF c s φ a w → wpOpsIn (fz c.rd) 0 P ops (fun e a w => ∃ t φ, Q e t ∧ RF c t φ a w) (List.range' pre.length l.length) a w
section
variable {P : Program} {ops : Array Oper} {c : Fam} {l : List Oper} {Q : Exit → AS → Prop} {s : AS}
theorem awp_regionL {id : Nat} (h : WpL P l.toArray c l Q s) : AWp P c (.region id l.toArray false) Q s := ⟨fun φ a w hR => by
  refine wpIn_region ?_
  have := h.run [] (by simp) φ a w hR
  simpa [List.range_eq_range'] using this⟩
theorem wpl_nil (h : Q .normal s) : WpL P ops c [] Q s := ⟨fun pre hp φ a w hR => by
  show wpOpsIn (fz c.rd) 0 P ops _ [] a w
  exact ⟨s, φ, h, hR⟩⟩
theorem wpl_turn {α : Type} {T : α → AS} (ht : TurnsE c s T) (h : ∀ x, WpL P ops c l Q (T x)) : WpL P ops c l Q s :=
  ⟨fun pre hp φ a w hR => let ⟨x, φ', h'⟩ := ht φ a w hR; (h x).run pre hp φ' a w h'⟩
theorem wpl_run {l1 l2 : List Oper} (hl : l = l1 ++ l2) (hd : dstsB c.nt l1 = true) (h : RunT P ops l1 s fun _ t => WpL P ops c l2 Q t) : WpL P ops c l Q s := ⟨fun pre hp φ a w ⟨c', hG, hR⟩ => by
  subst hl
  have hg : ∀ i : Nat, ops[i]? = (pre ++ (l1 ++ l2))[i]? := fun i => by rw [← hp, Array.getElem?_toList]
  rw [List.length_append, ← List.range'_append_1, ← (c.eq _ hG).2]
  refine runT_on (c := c') l1 (List.range' pre.length l1.length) _ s _ (fun k hk => ?_) (by simp) (dstsB_spec l1 (by rw [(c.eq _ hG).1]; exact hd)) h φ a w hR fun rs t φ' a' w' hk hR' => ?_
  · rw [List.getElem?_range' (by omega), Option.bind_some, hg, List.getElem?_append_right (by omega), List.getElem?_append_left (by omega)]
    congr 1; omega
  · have := WpL.run hk (pre ++ l1) (by rw [hp, List.append_assoc]) φ' a' w' ⟨c', hG, hR'⟩
    rw [(c.eq _ hG).2]
    simpa using this⟩
end

theorem turns_freeze {c : Fam} {s : AS} (nm : Nat) {blk : Blk} (hn : s.mem nm = some blk) : TurnsE c s fun (_ : Unit) => s.freeze nm blk.cells := fun φ a w ⟨c', hG, hR⟩ => ⟨(), φ, c', hG, hR.freeze hn⟩

end Go.Proofs.Ytgjhikjnlcbmkaa

/- Slices of the call's own that lie in a struct's cells. Nothing of the program. -/
namespace Go.Proofs.Ytgjhikjnlcbmkaa
open Go.RowKit

theorem rep_of_eq {ok : Nat → Prop} {φ : Nat → Nat × Nat} {w : World} {v : Value} {x y : AV} (e : x = y) (h : y.rep ok φ w v) : x.rep ok φ w v := e ▸ h
theorem val_rep (ok : Nat → Prop) (w : World) (v : Value) : DV.rep ok w (.val v) v := rep_val.2 rfl
theorem slotAt_pn {c : Ctx} {a : Act} {φ : Nat → Nat × Nat} {i : Nat} (h : PN ≤ i) : slotAt c a φ i = encP (φ i) := by
  unfold slotAt
  rw [blt_no (show GH ≤ i from Nat.le_trans (by decide) h), blt_no h]
  rfl
theorem slotAt_updP {c : Ctx} {a : Act} {φ : Nat → Nat × Nat} {L i : Nat} (h : PN ≤ L) (p : Nat × Nat) (hi : i ≠ L) : slotAt c a (upd φ L p) i = slotAt c a φ i := by
  unfold slotAt
  rw [upd_ne _ _ hi]
section
variable {c : Ctx} {s : AS} {φ : Nat → Nat × Nat} {a : Act} {w : World}
theorem R.rename (h : R c s φ a w) {d L : Nat} {blk : Blk} (hd : s.mem d = some blk) (hL : s.mem L = none) (hPN : PN ≤ L) :
    R c ⟨upd (fun i => ((s.fr i).kill d).kill L) L (.d (.val (encP (φ d)))), upd (upd s.mem d none) L (some blk)⟩ (upd φ L (φ d)) a w := by
  have hdL : d ≠ L := fun e => by rw [e, hL] at hd; cases hd
  have hmem : ∀ n b, upd (upd s.mem d none) L (some blk) n = some b → (n = L ∧ b = blk) ∨ (n ≠ L ∧ n ≠ d ∧ s.mem n = some b) := fun n b hb => by
    by_cases e : n = L
    · subst e; rw [upd_same] at hb; exact .inl ⟨rfl, (Option.some.inj hb).symm⟩
    · rw [upd_ne _ _ e] at hb
      by_cases e2 : n = d
      · subst e2; rw [upd_same] at hb; cases hb
      · rw [upd_ne _ _ e2] at hb; exact .inr ⟨e, e2, hb⟩
  have hold : ∀ n, upd (upd s.mem d none) L (some blk) n ≠ none → ∃ m, s.mem m ≠ none ∧ (upd φ L (φ d) n) = φ m ∧ (n = L → m = d) ∧ (n ≠ L → m = n ∧ n ≠ d) := fun n hn => by
    obtain ⟨b, hb⟩ := Option.ne_none_iff_exists'.1 hn
    rcases hmem n b hb with ⟨e, _⟩ | ⟨e, e2, e3⟩
    · subst e; exact ⟨d, by rw [hd]; simp, upd_same _ _ _, fun _ => rfl, fun h => absurd rfl h⟩
    · exact ⟨n, by rw [e3]; simp, upd_ne _ _ e, fun h => absurd h e, fun _ => ⟨rfl, e2⟩⟩
  have hk : Keeps (okOf c φ s) w (okOf c (upd φ L (φ d)) ⟨upd (fun i => ((s.fr i).kill d).kill L) L (.d (.val (encP (φ d)))), upd (upd s.mem d none) L (some blk)⟩) w := Keeps.wide fun b hb _ => by
    rcases hb with hb | ⟨hb, hb2⟩
    · exact .inl hb
    · refine .inr ⟨hb, fun n hn => ?_⟩
      obtain ⟨m, h1, h2, _⟩ := hold n hn
      rw [h2]; exact hb2 m h1
  have hLV : L ≠ VG := fun e => by have h3 : 3000000 ≤ L := hPN; have h4 : L = 999999 := e; omega
  refine ⟨h.below, h.defers, h.size, h.ntv, fun i hi => ?_, fun n b hb => ?_, fun n b hb => ?_, fun x y hx hy hxy => ?_, h.gh_step (fun v hv => ?_) rfl rfl rfl (Nat.le_refl _) (fun _ _ _ => rfl) fun n hn => ?_⟩
  · by_cases e : i = L
    · subst e
      rw [slotAt_pn hPN, upd_same]
      dsimp only
      refine rep_of_eq (upd_same _ _ _) ?_
      exact val_rep (fun _ => True) w _
    · rw [slotAt_updP hPN _ e]
      dsimp only
      refine rep_of_eq (upd_ne _ _ e) ?_
      exact (AV.rep_kill (fun m hm => upd_ne _ _ hm) (AV.rep_kill (fun _ _ => rfl) (AV.rep_keeps hk (h.fr i hi))))
  · rcases hmem n b hb with ⟨e, _⟩ | ⟨e, _, e3⟩
    · subst e; rw [upd_same]; exact h.own d blk hd
    · rw [upd_ne _ _ e]; exact h.own n b e3
  · rcases hmem n b hb with ⟨e, e2⟩ | ⟨e, _, e3⟩
    · subst e e2; rw [upd_same]; exact (h.mem d b hd).keeps hk rfl
    · rw [upd_ne _ _ e]; exact (h.mem n b e3).keeps hk rfl
  · obtain ⟨m, h1, h2, h3, h4⟩ := hold x hx
    obtain ⟨k, h5, h6, h7, h8⟩ := hold y hy
    rw [h2, h6]
    refine h.inj m k h1 h5 fun e => ?_
    by_cases ex : x = L
    · by_cases ey : y = L
      · exact hxy (ex.trans ey.symm)
      · exact (h8 ey).2 ((h8 ey).1.symm.trans (e.symm.trans (h3 ex)))
    · by_cases ey : y = L
      · exact (h4 ex).2 ((h4 ex).1.symm.trans (e.trans (h7 ey)))
      · exact hxy ((h4 ex).1.symm.trans (e.trans (h8 ey).1))
  · have hv : upd (fun i => ((s.fr i).kill d).kill L) L (.d (.val (encP (φ d)))) VG = .d (.val v) := hv
    rw [upd_ne _ _ (Ne.symm hLV)] at hv
    exact kill_val (kill_val hv)
  · obtain ⟨m, h1, h2, _⟩ := hold n hn
    exact .inl ⟨m, h1, by rw [h2]⟩
theorem R.slot (h : R c s φ a w) {t : Nat} (ht : t < VG) {x : AV} (hx : ∀ v, (s.fr t).rep (okOf c φ s) φ w v → x.rep (okOf c φ s) φ w v) : R c ⟨upd s.fr t x, s.mem⟩ φ a w := by
  refine ⟨h.below, h.defers, h.size, h.ntv, fun i hi => ?_, h.own, h.mem, h.inj, fun k hk => h.gh k ?_⟩
  · show (upd s.fr t x i).rep (okOf c φ s) φ w _
    by_cases e : i = t
    · subst e; rw [upd_same]; exact hx _ (h.fr i hi)
    · rw [upd_ne _ _ e]; exact h.fr i hi
  · have e : upd s.fr t x VG = s.fr VG := upd_ne _ _ (Nat.ne_of_gt ht)
    rw [← e]; exact hk
end

abbrev linkC (b cap n : Nat) : DV := .val (.slice (some ⟨b, 0, none⟩) n cap)
abbrev linkP (b cap sz : Nat) : AV := .d (.val (encP (b, cap * sz)))
abbrev LkOk (n : Nat) : Type := {x : Nat × Nat // n ≤ x.2 ∧ x.2 ≤ maxLen}
theorem turns_pin {c : Fam} {s : AS} {blk : Blk} (t d L : Nat) {m sz : Nat} (ht : s.fr t = .lsl d 0 m sz) (htV : Nat.blt t VG = true) (hd : s.mem d = some blk) (hL : s.mem L = none) (hPN : Nat.ble PN L = true) :
    TurnsE c s fun (x : LkOk m) => ⟨upd (upd (fun i => ((s.fr i).kill d).kill L) L (linkP x.1.1 x.1.2 sz)) t (.d (linkC x.1.1 x.1.2 m)), upd (upd s.mem d none) L (some blk)⟩ := fun φ a w ⟨c', hG, hR⟩ => by
  have htV : t < VG := Nat.le_of_ble_eq_true htV
  have hPN : PN ≤ L := Nat.le_of_ble_eq_true hPN
  have hdL : d ≠ L := fun e => by rw [e, hL] at hd; cases hd
  have h1 := hR.fr t (Nat.ne_of_lt htV)
  rw [ht] at h1
  obtain ⟨cap, h2, h3, h4, h5⟩ := h1
  have h5 : (φ d).2 = cap * sz := by rw [← h5]; omega
  have h6 := hR.rename hd hL hPN
  have hp : φ d = ((φ d).1, cap * sz) := Prod.ext rfl h5
  have htL : t ≠ L := fun e => by have h3 : 3000000 ≤ L := hPN; have h4 : t < 999999 := htV; omega
  refine ⟨⟨((φ d).1, cap), h3, h4⟩, upd φ L ((φ d).1, cap * sz), c', hG, ?_⟩
  have h7 := h6.fr t (Nat.ne_of_lt htV)
  have h8 : R c' ⟨upd (fun i => ((s.fr i).kill d).kill L) L (.d (.val (encP (φ d)))), upd (upd s.mem d none) L (some blk)⟩ (upd φ L (φ d)) a w := h6
  rw [hp] at h8
  refine ⟨h8.below, h8.defers, h8.size, h8.ntv, fun i hi => ?_, h8.own, h8.mem, h8.inj, fun k hk => h8.gh k ?_⟩
  · by_cases e : i = t
    · subst e
      rw [slotAt_updP hPN _ htL, h2]
      dsimp only
      refine rep_of_eq (upd_same _ _ _) ?_
      exact val_rep (fun _ => True) w _
    · dsimp only
      refine rep_of_eq (upd_ne _ _ e) ?_
      exact h8.fr i hi
  · have e : upd (upd (fun i => ((s.fr i).kill d).kill L) L (linkP (φ d).1 cap sz)) t (.d (linkC (φ d).1 cap m)) VG = upd (fun i => ((s.fr i).kill d).kill L) L (linkP (φ d).1 cap sz) VG := upd_ne _ _ (Nat.ne_of_gt htV)
    exact e.symm.trans hk
end Go.Proofs.Ytgjhikjnlcbmkaa

/- A slice that grows in a struct's cell: nil, then a link. Nothing of the program. -/
namespace Go.Proofs.Ytgjhikjnlcbmkaa
open Go.RowKit

def LkJ (b cap k : Nat) : Prop := k = 0 ∨ (k ≤ cap ∧ cap ≤ maxLen)
theorem LkJ.of {k : Nat} (x : LkOk k) : LkJ x.1.1 x.1.2 k := .inr x.2


/-! Slices of any items that a loop makes. -/
section
variable {P : Program} {c : Fam} {Q : Exit → AS → Prop} {s : AS}
end

end Go.Proofs.Ytgjhikjnlcbmkaa

/- Functions that are handed a yield: contracts and rules. Nothing of the program. -/
namespace Go.Proofs.Ytgjhikjnlcbmkaa
open Go.RowKit

section
variable {P : Program} {s : AS} {dst : Option Tmp} {ty : TypeId} {ps : String} {af : Array Edge} {t : TypeId} {x y : Operand}
theorem o_loadLk {nm off L b cap n sz k : Nat} {blk : Blk} [h : TyI P t false k] (hx : s.ev x = .ptr nm off) (hm : s.mem nm = some blk) (hc : (blk.cells.drop off)[0]? = some (linkC b cap n)) (hL : s.fr L = linkP b cap sz) (hPN : Nat.ble PN L = true) (hn : n ≤ cap) (hcap : cap ≤ maxLen) (gd : Option (Nat × Bool)) :
    Does P ⟨dst, .load t x, ty, ps, af, gd⟩ s [nm] (.put (.lsl L 0 n sz)) :=
  ⟨fun c s' φ a w K Q hR hop hrd hd hlk hK => by
    have hPN : PN ≤ L := Nat.le_of_ble_eq_true hPN
    have h1 := ge_ptr hR (hop x (by simp [Op.operands])) hx
    obtain ⟨v, hv, hr⟩ := hR.load (P := P) ((hrd nm (by simp)).trans hm) (.one h.eq hc)
    have hr := (rep_val (ok := okOf c φ s') (w := w)).1 hr
    unfold Oper.wp
    have : (execOp a.eval ⟨dst, .load t x, ty, ps, af, gd⟩).run P w = .ok (.value v) w := by
      simp only [execOp, h1, Sem.run_bind, Instr.loadAt, Instr.sureAddr, Sem.run_pure, Result.andThen_ok, hv]
    rw [this]
    have h2 := hR.fr L (fun e => by have h3 : 3000000 ≤ L := hPN; have h4 : L = 999999 := e; omega)
    rw [hlk L _ hPN hL, slotAt_pn hPN] at h2
    have h2 : encP (φ L) = encP (b, cap * sz) := (rep_val (ok := okOf c φ s') (w := w)).1 h2
    unfold encP at h2
    injection h2 with e1 _ e2
    injection e1 with e1
    injection e1 with e1
    exact hK _ _ _ (hR.put hd ⟨cap, by rw [hr, e1], hn, hcap, by rw [e2]; simp⟩)⟩
end

end Go.Proofs.Ytgjhikjnlcbmkaa
