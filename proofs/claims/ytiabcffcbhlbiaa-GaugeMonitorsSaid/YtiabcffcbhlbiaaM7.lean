/- Slices of the call's own that lie in a struct's cells. Nothing of the program. -/
import Derived.Test.YtiabcffcbhlbiaaMj
set_option linter.unusedVariables false
set_option linter.unusedSimpArgs false
namespace Go.Proofs.Ytiabcffcbhlbiaa
open Go.RowKit

theorem rep_of_eq {ok : Nat → Prop} {φ : Nat → Nat × Nat} {w : World} {v : Value} {x y : AV} (e : x = y) (h : y.rep ok φ w v) : x.rep ok φ w v := e ▸ h
theorem val_rep (ok : Nat → Prop) (w : World) (v : Value) : DV.rep ok w (.val v) v := rep_val.2 rfl
theorem slotAt_pn {c : Ctx} {a : Act} {φ : Nat → Nat × Nat} {i : Nat} (h : PN ≤ i) : slotAt c a φ i = encP (φ i) := by
  unfold slotAt
  rw [blt_no (show GH ≤ i from Nat.le_trans (by decide) h), blt_no h]
  rfl
theorem slotAt_updP {c : Ctx} {a : Act} {φ : Nat → Nat × Nat} {L i : Nat} (h : PN ≤ L) (p : Nat × Nat) (hi : i ≠ L) : slotAt c a (upd φ L p) i = slotAt c a φ i := by
  unfold slotAt
  rw [upd_ne _ _ hi]
section
variable {c : Ctx} {s : AS} {φ : Nat → Nat × Nat} {a : Act} {w : World}
/-- The block d gets the link name L. -/
theorem R.rename (h : R c s φ a w) {d L : Nat} {blk : Blk} (hd : s.mem d = some blk) (hL : s.mem L = none) (hPN : PN ≤ L) :
    R c ⟨upd (fun i => ((s.fr i).kill d).kill L) L (.d (.val (encP (φ d)))), upd (upd s.mem d none) L (some blk)⟩ (upd φ L (φ d)) a w := by
  have hdL : d ≠ L := fun e => by rw [e, hL] at hd; cases hd
  have hmem : ∀ n b, upd (upd s.mem d none) L (some blk) n = some b → (n = L ∧ b = blk) ∨ (n ≠ L ∧ n ≠ d ∧ s.mem n = some b) := fun n b hb => by
    by_cases e : n = L
    · subst e; rw [upd_same] at hb; exact .inl ⟨rfl, (Option.some.inj hb).symm⟩
    · rw [upd_ne _ _ e] at hb
      by_cases e2 : n = d
      · subst e2; rw [upd_same] at hb; cases hb
      · rw [upd_ne _ _ e2] at hb; exact .inr ⟨e, e2, hb⟩
  have hold : ∀ n, upd (upd s.mem d none) L (some blk) n ≠ none → ∃ m, s.mem m ≠ none ∧ (upd φ L (φ d) n) = φ m ∧ (n = L → m = d) ∧ (n ≠ L → m = n ∧ n ≠ d) := fun n hn => by
    obtain ⟨b, hb⟩ := Option.ne_none_iff_exists'.1 hn
    rcases hmem n b hb with ⟨e, _⟩ | ⟨e, e2, e3⟩
    · subst e; exact ⟨d, by rw [hd]; simp, upd_same _ _ _, fun _ => rfl, fun h => absurd rfl h⟩
    · exact ⟨n, by rw [e3]; simp, upd_ne _ _ e, fun h => absurd h e, fun _ => ⟨rfl, e2⟩⟩
  have hk : Keeps (okOf c φ s) w (okOf c (upd φ L (φ d)) ⟨upd (fun i => ((s.fr i).kill d).kill L) L (.d (.val (encP (φ d)))), upd (upd s.mem d none) L (some blk)⟩) w := Keeps.wide fun b hb _ => by
    rcases hb with hb | ⟨hb, hb2⟩
    · exact .inl hb
    · refine .inr ⟨hb, fun n hn => ?_⟩
      obtain ⟨m, h1, h2, _⟩ := hold n hn
      rw [h2]; exact hb2 m h1
  have hLV : L ≠ VG := fun e => by have h3 : 3000000 ≤ L := hPN; have h4 : L = 999999 := e; omega
  refine ⟨h.below, h.defers, h.size, h.ntv, fun i hi => ?_, fun n b hb => ?_, fun n b hb => ?_, fun x y hx hy hxy => ?_, h.gh_step (fun v hv => ?_) rfl rfl rfl (Nat.le_refl _) (fun _ _ _ => rfl) fun n hn => ?_⟩
  · by_cases e : i = L
    · subst e
      rw [slotAt_pn hPN, upd_same]
      dsimp only
      refine rep_of_eq (upd_same _ _ _) ?_
      exact val_rep (fun _ => True) w _
    · rw [slotAt_updP hPN _ e]
      dsimp only
      refine rep_of_eq (upd_ne _ _ e) ?_
      exact (AV.rep_kill (fun m hm => upd_ne _ _ hm) (AV.rep_kill (fun _ _ => rfl) (AV.rep_keeps hk (h.fr i hi))))
  · rcases hmem n b hb with ⟨e, _⟩ | ⟨e, _, e3⟩
    · subst e; rw [upd_same]; exact h.own d blk hd
    · rw [upd_ne _ _ e]; exact h.own n b e3
  · rcases hmem n b hb with ⟨e, e2⟩ | ⟨e, _, e3⟩
    · subst e e2; rw [upd_same]; exact (h.mem d b hd).keeps hk rfl
    · rw [upd_ne _ _ e]; exact (h.mem n b e3).keeps hk rfl
  · obtain ⟨m, h1, h2, h3, h4⟩ := hold x hx
    obtain ⟨k, h5, h6, h7, h8⟩ := hold y hy
    rw [h2, h6]
    refine h.inj m k h1 h5 fun e => ?_
    by_cases ex : x = L
    · by_cases ey : y = L
      · exact hxy (ex.trans ey.symm)
      · exact (h8 ey).2 ((h8 ey).1.symm.trans (e.symm.trans (h3 ex)))
    · by_cases ey : y = L
      · exact (h4 ex).2 ((h4 ex).1.symm.trans (e.trans (h7 ey)))
      · exact hxy ((h4 ex).1.symm.trans (e.trans (h8 ey).1))
  · have hv : upd (fun i => ((s.fr i).kill d).kill L) L (.d (.val (encP (φ d)))) VG = .d (.val v) := hv
    rw [upd_ne _ _ (Ne.symm hLV)] at hv
    exact kill_val (kill_val hv)
  · obtain ⟨m, h1, h2, _⟩ := hold n hn
    exact .inl ⟨m, h1, by rw [h2]⟩
theorem R.slot (h : R c s φ a w) {t : Nat} (ht : t < VG) {x : AV} (hx : ∀ v, (s.fr t).rep (okOf c φ s) φ w v → x.rep (okOf c φ s) φ w v) : R c ⟨upd s.fr t x, s.mem⟩ φ a w := by
  refine ⟨h.below, h.defers, h.size, h.ntv, fun i hi => ?_, h.own, h.mem, h.inj, fun k hk => h.gh k ?_⟩
  · show (upd s.fr t x i).rep (okOf c φ s) φ w _
    by_cases e : i = t
    · subst e; rw [upd_same]; exact hx _ (h.fr i hi)
    · rw [upd_ne _ _ e]; exact h.fr i hi
  · have e : upd s.fr t x VG = s.fr VG := upd_ne _ _ (Nat.ne_of_gt ht)
    rw [← e]; exact hk
theorem repL_set1 {ok : Nat → Prop} {x : DV} {v : Value} : ∀ (cells : List DV) (vs : List Value) (off : Nat), DV.repL ok w cells vs → vs[off]? = some v → x.rep ok w v → DV.repL ok w (cells.set off x) vs
  | [], vs, off, h, _, _ => h
  | y :: cells, vs, off, h, hv, hx => by
    obtain ⟨u, us, rfl, h1, h2⟩ := repL_cons.1 h
    cases off with
    | zero =>
      have hv : u = v := by simpa using hv
      subst hv
      exact repL_cons'.2 ⟨hx, h2⟩
    | succ off => exact repL_cons'.2 ⟨h1, repL_set1 cells us off h2 (by simpa using hv) hx⟩
/-- A cell's value is told in another way. -/
theorem R.recell (h : R c s φ a w) {nm off : Nat} {ty : TypeId} {cells : List DV} (hn : s.mem nm = some ⟨ty, cells⟩) {x y : DV} (hx : cells[off]? = some x) (hxy : ∀ v, x.rep (okOf c φ s) w v → y.rep (okOf c φ s) w v) : R c (s.setBlk nm ⟨ty, cells.set off y⟩) φ a w := by
  refine h.store hn (Turned.refl _ _) ?_
  obtain ⟨vs, ex, h1, h2, h3, h4⟩ := h.mem nm _ hn
  obtain ⟨v, hv, hr⟩ := repL_get h4 hx
  exact ⟨vs, ex, h1, h2, h3, repL_set1 cells vs off h4 hv (hxy v hr)⟩
end

/-- The slice that lies at the beginning of block b. -/
abbrev linkC (b cap n : Nat) : DV := .val (.slice (some ⟨b, 0, none⟩) n cap)
abbrev linkP (b cap sz : Nat) : AV := .d (.val (encP (b, cap * sz)))
/-- What is known of a link's slice. -/
abbrev LkOk (n : Nat) : Type := {x : Nat × Nat // n ≤ x.2 ∧ x.2 ≤ maxLen}
theorem turns_pin {c : Fam} {s : AS} {blk : Blk} (t d L : Nat) {m sz : Nat} (ht : s.fr t = .lsl d 0 m sz) (htV : Nat.blt t VG = true) (hd : s.mem d = some blk) (hL : s.mem L = none) (hPN : Nat.ble PN L = true) :
    TurnsE c s fun (x : LkOk m) => ⟨upd (upd (fun i => ((s.fr i).kill d).kill L) L (linkP x.1.1 x.1.2 sz)) t (.d (linkC x.1.1 x.1.2 m)), upd (upd s.mem d none) L (some blk)⟩ := fun φ a w ⟨c', hG, hR⟩ => by
  have htV : t < VG := Nat.le_of_ble_eq_true htV
  have hPN : PN ≤ L := Nat.le_of_ble_eq_true hPN
  have hdL : d ≠ L := fun e => by rw [e, hL] at hd; cases hd
  have h1 := hR.fr t (Nat.ne_of_lt htV)
  rw [ht] at h1
  obtain ⟨cap, h2, h3, h4, h5⟩ := h1
  have h5 : (φ d).2 = cap * sz := by rw [← h5]; omega
  have h6 := hR.rename hd hL hPN
  have hp : φ d = ((φ d).1, cap * sz) := Prod.ext rfl h5
  have htL : t ≠ L := fun e => by have h3 : 3000000 ≤ L := hPN; have h4 : t < 999999 := htV; omega
  refine ⟨⟨((φ d).1, cap), h3, h4⟩, upd φ L ((φ d).1, cap * sz), c', hG, ?_⟩
  have h7 := h6.fr t (Nat.ne_of_lt htV)
  have h8 : R c' ⟨upd (fun i => ((s.fr i).kill d).kill L) L (.d (.val (encP (φ d)))), upd (upd s.mem d none) L (some blk)⟩ (upd φ L (φ d)) a w := h6
  rw [hp] at h8
  refine ⟨h8.below, h8.defers, h8.size, h8.ntv, fun i hi => ?_, h8.own, h8.mem, h8.inj, fun k hk => h8.gh k ?_⟩
  · by_cases e : i = t
    · subst e
      rw [slotAt_updP hPN _ htL, h2]
      dsimp only
      refine rep_of_eq (upd_same _ _ _) ?_
      exact val_rep (fun _ => True) w _
    · dsimp only
      refine rep_of_eq (upd_ne _ _ e) ?_
      exact h8.fr i hi
  · have e : upd (upd (fun i => ((s.fr i).kill d).kill L) L (linkP (φ d).1 cap sz)) t (.d (linkC (φ d).1 cap m)) VG = upd (fun i => ((s.fr i).kill d).kill L) L (linkP (φ d).1 cap sz) VG := upd_ne _ _ (Nat.ne_of_gt htV)
    exact e.symm.trans hk
theorem turns_link {c : Fam} {s : AS} (t L : Nat) {b cap n sz : Nat} (ht : s.fr t = .d (linkC b cap n)) (hL : s.fr L = linkP b cap sz) (htV : Nat.blt t VG = true) (hPN : Nat.ble PN L = true) (hn : n ≤ cap) (hcap : cap ≤ maxLen) :
    TurnsE c s fun (_ : Unit) => ⟨upd s.fr t (.lsl L 0 n sz), s.mem⟩ := fun φ a w ⟨c', hG, hR⟩ => by
  have htV : t < VG := Nat.le_of_ble_eq_true htV
  have hPN : PN ≤ L := Nat.le_of_ble_eq_true hPN
  refine ⟨(), φ, c', hG, hR.slot htV fun v hv => ?_⟩
  rw [ht] at hv
  have hv := (rep_val (ok := okOf c' φ s) (w := w)).1 hv
  have h1 := hR.fr L (fun e => by have h3 : 3000000 ≤ L := hPN; have h4 : L = 999999 := e; omega)
  rw [hL, slotAt_pn hPN] at h1
  have h1 : encP (φ L) = encP (b, cap * sz) := (rep_val (ok := okOf c' φ s) (w := w)).1 h1
  unfold encP at h1
  injection h1 with e1 _ e2
  injection e1 with e1
  injection e1 with e1
  exact ⟨cap, by rw [hv, e1], hn, hcap, by rw [e2]; simp⟩
/-- The slice in a cell is not appended to any more. -/
theorem turns_unlink {c : Fam} {s : AS} (nm off L : Nat) {b cap n sz : Nat} {ty ty2 : TypeId} {cells cells2 : List DV} (hn : s.mem nm = some ⟨ty, cells⟩) (hc : cells[off]? = some (linkC b cap n)) (hL : s.mem L = some ⟨ty2, cells2⟩) (hp : s.fr L = linkP b cap sz) (hPN : Nat.ble PN L = true) (hnL : nm ≠ L) (hle : n ≤ cap) (hcap : cap ≤ maxLen) :
    TurnsE c s fun (_ : Unit) => ⟨fun i => (s.fr i).frz L cells2, upd (upd s.mem L none) nm (some ⟨ty, cells.set off (.slice n (cells2.take (n * sz)))⟩)⟩ := fun φ a w ⟨c', hG, hR⟩ => by
  have hPN : PN ≤ L := Nat.le_of_ble_eq_true hPN
  have h1 := hR.fr L (fun e => by have h3 : 3000000 ≤ L := hPN; have h4 : L = 999999 := e; omega)
  rw [hp, slotAt_pn hPN] at h1
  have h1 : encP (φ L) = encP (b, cap * sz) := (rep_val (ok := okOf c' φ s) (w := w)).1 h1
  unfold encP at h1
  injection h1 with e1 _ e2
  injection e1 with e1
  injection e1 with e1
  have hf := hR.freeze hL
  have hn2 : (s.freeze L cells2).mem nm = some ⟨ty, cells⟩ := (upd_ne _ _ hnL).trans hn
  refine ⟨(), φ, c', hG, hf.recell hn2 hc fun v hv => ?_⟩
  have hv := (rep_val (ok := okOf c' φ (s.freeze L cells2)) (w := w)).1 hv
  have hs : (AV.lsl L 0 n sz).rep (okOf c' φ s) φ w v := ⟨cap, by rw [hv, e1], hle, hcap, by rw [e2]; simp⟩
  have := hR.slice_of_own hL (ok := okOf c' φ (s.freeze L cells2)) (.inr ⟨hR.own L _ hL, fun m hm => ?_⟩) (fun b hb => okOf_freeze L _ hb) hs
  · rwa [List.drop_zero] at this
  · have hmL : m ≠ L := fun e => by subst e; exact hm (upd_same _ _ _)
    have hm2 : s.mem m ≠ none := by
      have e : (s.freeze L cells2).mem m = s.mem m := upd_ne _ _ hmL
      rwa [e] at hm
    exact hR.inj m L hm2 (by rw [hL]; simp) hmL

end Go.Proofs.Ytiabcffcbhlbiaa
