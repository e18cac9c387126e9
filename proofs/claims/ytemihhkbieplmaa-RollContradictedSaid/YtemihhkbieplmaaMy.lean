/- Functions that are handed a yield: the rules. Nothing of the program. -/
import Derived.Test.YtemihhkbieplmaaMx
set_option linter.unusedVariables false
set_option linter.unusedSimpArgs false
namespace Go.Proofs.Ytemihhkbieplmaa
open Go.RowKit

theorem gin_mine {J : Ghost} {sJ : Stable J} {fz0 : Nat → Prop} {nt : Nat} {w w1 : World} {ok1 ex1 okS K0 : Nat → Prop} (hG : GIn w fz0 okS K0 w1 ok1 ex1) {b : Nat} (hb : (itc J sJ fz0 nt w1 ok1 ex1).mine b) : w.heap.size ≤ b := by
  rcases hb with hb | hb
  · exact Nat.le_trans hG.same.size hb
  · exact hG.exn b hb
theorem gin_ok {J : Ghost} {sJ : Stable J} {fz0 : Nat → Prop} {nt : Nat} {w w1 : World} {ok1 ex1 okS K0 : Nat → Prop} (hG : GIn w fz0 okS K0 w1 ok1 ex1) {t : AS} {φ : Nat → Nat × Nat} {b : Nat} (hb : okOf (itc J sJ fz0 nt w1 ok1 ex1) φ t b) : okS b ∨ w.heap.size ≤ b := by
  rcases hb with h3 | h3
  · exact hG.okn b h3.2.1
  · exact .inr (gin_mine hG h3.1)

/-- A call of yield with values that may be kept: all else is forgotten. -/
theorem awp_yieldS {P : Program} {c : Fam} {lN : Nat} {xs : List YA} {Q : Exit → AS → Prop} {s : AS} (hI : ItrG P c lN xs) {id : Nat} {l pre post : List Oper} {dst : Tmp} {y : Operand} {args : Array Operand} {ats : Array TypeId} {ty : TypeId} {ps : String} {af : Array Edge}
    (hl : l = pre ++ ⟨some dst, .call ⟨.value y, args, ats⟩, ty, ps, af, none⟩ :: post) (hd : dstsB c.nt l = true) (k : Nat) (ds : List DV) (hx : xs[k]? = some (.gv ds))
    (h : RunT P l.toArray pre s fun _ t => t.ev y = .d (.val (.func (.yield lN) #[] #[])) ∧ viewD t args.toList = some ds ∧ t.fr VG = cntV k ∧
      RunT P l.toArray post ⟨upd (upd anyS.fr VG (cntV (k + 1))) dst (.d (.val (.bool true))), anyS.mem⟩ (fun _ u => Q .normal u) ∧
      RunT P l.toArray post ⟨upd (upd anyS.fr VG (stpV (k + 1))) dst (.d (.val (.bool false))), anyS.mem⟩ (fun _ u => Q .normal u)) : AWp P c (.region id l.toArray false) Q s := ⟨fun φ a w ⟨c', hGG, hR⟩ => by
  obtain ⟨wE, fz0, okS, K0, J, Jx, sJ, nt, rfl, _, _, hY⟩ := hI.run
  obtain ⟨w1, ok1, ex1, rfl, hG⟩ := hGG
  have hds : ∀ o ∈ l, opOk (itc (J2 (gJ wE okS K0 J) (gJ wE okS K0 Jx)) sJ fz0 nt w1 ok1 ex1) o := dstsB_spec l hd
  have hget : ∀ i : Nat, l.toArray[i]? = l[i]? := fun i => List.getElem?_toArray
  have hr : List.range l.toArray.size = List.range pre.length ++ pre.length :: (List.range' (pre.length + 1) post.length) := by
    rw [hl]
    simp only [List.size_toArray, List.length_append, List.length_cons, List.range_eq_range']
    rw [show pre.length + (post.length + 1) = pre.length + (1 + post.length) by omega, ← List.range'_append_1, ← List.range'_append_1]
    simp
  refine wpIn_region ?_
  rw [hr]
  refine runT_on (c := itc (J2 (gJ wE okS K0 J) (gJ wE okS K0 Jx)) sJ fz0 nt w1 ok1 ex1) pre (List.range pre.length) _ s _ (fun k hk => ?_) (by simp) (fun o ho => hds o (by rw [hl]; simp [ho])) h φ a w hR ?_
  · rw [List.getElem?_range hk, Option.bind_some]
    exact (hget k).trans (by rw [hl]; exact List.getElem?_append_left hk)
  rintro rs t φ' a' w' ⟨h1, h2, h3, h4, h5⟩ hR'
  have hi : l.toArray[pre.length]? = some ⟨some dst, .call ⟨.value y, args, ats⟩, ty, ps, af, none⟩ := (hget _).trans (by rw [hl]; exact (List.getElem?_append_right (Nat.le_refl _)).trans (by rw [Nat.sub_self]; rfl))
  have hpo : ∀ k, k < post.length → (List.range' (pre.length + 1) post.length)[k]?.bind (l.toArray[·]?) = post[k]? := fun k hk => by
    rw [List.getElem?_range' (by omega), Option.bind_some]
    refine (hget _).trans ?_
    rw [hl]
    refine (List.getElem?_append_right (by omega)).trans ?_
    rw [show pre.length + 1 + 1 * k - pre.length = k + 1 by omega]
    rfl
  have hdst : dst < nt := (hds ⟨some dst, .call ⟨.value y, args, ats⟩, ty, ps, af, none⟩ (by rw [hl]; simp)).1 dst rfl
  rw [wpOpsIn_cons]
  unfold Go.wpOpIn
  simp only [hi]
  rw [if_pos (by simp [Region.wanted])]
  refine ⟨fun _ _ => trivial, ?_⟩
  have hy : a'.eval y = .func (.yield lN) #[] #[] := by
    have := hR'.ev y
    rw [h1] at this
    exact (rep_val (ok := okOf (itc (J2 (gJ wE okS K0 J) (gJ wE okS K0 Jx)) sJ fz0 nt w1 ok1 ex1) φ' t) (w := w')).1 this
  obtain ⟨K, ⟨hJ, hK1⟩, hK2, hK3, hK4⟩ := hR'.gh _ h3
  obtain ⟨hJ1, hKn⟩ := J2.even.1 hJ
  have hrep : (YA.gv ds).rep K (fun b => okOf (itc (J2 (gJ wE okS K0 J) (gJ wE okS K0 Jx)) sJ fz0 nt w1 ok1 ex1) φ' t b ∧ b < w'.heap.size) w' (args.toList.map a'.eval) :=
    DV.repL_keeps (Keeps.wide fun b hb hl => ⟨hb, hl⟩) _ _ (viewD_rep hR' args.toList _ (fun _ _ => ge_refl _) h2)
  obtain ⟨fn, tmps, asg, bd, hrun, hround⟩ := hY k K w' (.gv ds) (args.toList.map a'.eval) _ hx hJ1 hK3 hrep (fun b hb => ⟨hb.2, fz_of hK1 hb.1⟩)
  have hargs : (args.toList.map a'.eval).toArray = args.map a'.eval := by apply Array.ext'; simp
  rw [hargs] at hrun
  rw [Oper.semAt_eq _ _ _ (fun c h => by cases h), run_callYield hy, hrun, Oper.uponIn_round]
  refine ⟨fun h => by simp [fz, Fence.wide] at h, ?_⟩
  refine RoundIn.mono hround ?_
  rintro e W' ⟨hs, K', k1, k2, k3, k4, k5, hc⟩
  have hkeep : ∀ b, b < w'.heap.size → (fz0 b ∨ ¬ K b) → W'.heap[b]? = w'.heap[b]? := fun b hb hc => k4 b hb hc fun h => h
  have hG2 : GIn wE fz0 okS K0 W' _ (named anyS φ') := gin_step (S := fun b => okOf (itc (J2 (gJ wE okS K0 J) (gJ wE okS K0 Jx)) sJ fz0 nt w1 ok1 ex1) φ' t b ∧ b < w'.heap.size) (E := fun _ => False) (t' := anyS) hG hR' (fun nm hn => absurd rfl hn) hKn hs (fun _ h => h.elim) fun b hb hc _ => hkeep b hb hc
  have hKn2 : ∀ b, K' b → K0 b ∨ okS b ∨ wE.heap.size ≤ b := fun b hb => by
    rcases k2 b hb with h6 | h6 | h6
    · exact hKn b h6
    · exact .inr (gin_ok hG h6.1)
    · exact .inr (.inr (Nat.le_trans hG.same.size (Nat.le_trans hR'.below.size h6)))
  have fin : ∀ (m : Nat) (b : Bool), J2 (gJ wE okS K0 J) (gJ wE okS K0 Jx) m K' W' → RunT P l.toArray post ⟨upd (upd anyS.fr VG (.d (.val (.int .i64 (m : Int))))) dst (.d (.val (.bool b))), anyS.mem⟩ (fun _ u => Q .normal u) →
      wpOpsIn (fz none) 0 P l.toArray (fun e a w => ∃ t φ, Q e t ∧ RF (itG wE fz0 okS K0 (J2 (gJ wE okS K0 J) (gJ wE okS K0 Jx)) sJ nt) t φ a w) (List.range' (pre.length + 1) post.length) (a'.put (some dst) (.bool b)) W' := fun m b hj hrn => by
    have hR2 := rebaseG (t' := anyS) hR' (fun i _ => any_rep) (fun nm blk hn => by cases hn) hK1 (fun nm hn => absurd rfl hn) hs k2 k3 (fun b hb hc _ => hkeep b hb hc) hj
    have hR3 := hR2.put (dst := some dst) (r := .d (.val (.bool b))) (v := .bool b) (fun x hx => by cases hx; exact hdst) (by show DV.rep _ W' _ _; exact valX_rep _ _ _)
    exact runT_wp post _ _ _ hpo (by simp) (fun o ho => dstsB_spec (c := itc (J2 (gJ wE okS K0 J) (gJ wE okS K0 Jx)) sJ fz0 nt W' (fun b => (okOf (itc (J2 (gJ wE okS K0 J) (gJ wE okS K0 Jx)) sJ fz0 nt w1 ok1 ex1) φ' t b ∧ ¬ (okOf (itc (J2 (gJ wE okS K0 J) (gJ wE okS K0 Jx)) sJ fz0 nt w1 ok1 ex1) φ' t b ∧ b < w'.heap.size)) ∧ b < w'.heap.size) (named anyS φ')) l hd o (by rw [hl]; simp [ho])) hrn φ' _ W' hR3 fun rs u φ2 a2 w2 hq hR4 => ⟨u, φ2, hq, _, ⟨W', _, _, rfl, hG2⟩, hR4⟩
  rcases hc with ⟨rfl, hj⟩ | ⟨rfl, hj⟩
  · exact fin _ true (J2.even.2 ⟨hj, hKn2⟩) h4
  · exact fin _ false (J2.odd.2 ⟨hj, hKn2⟩) h5⟩

/-- The arguments that are handed on together with the yield: values without addresses, behind a slice of the call's own. -/
inductive GV (t : AS) : List Operand → List DV → Option Nat → Prop
  | flat {avs ds} (h : viewD t avs = some ds) (hf : DV.flatL ds = true) : GV t avs ds none
  | own {x avs nm n sz ty cells ds} (h : t.ev x = .lsl nm 0 n sz) (hm : t.mem nm = some ⟨ty, cells⟩) (hf : DV.flatL cells = true) (h2 : viewD t avs = some ds) (hf2 : DV.flatL ds = true) : GV t (x :: avs) (.slice n (cells.take (n * sz)) :: ds) (some nm)
def killO : Option Nat → AV → AV
  | none, x => x
  | some nm, x => x.kill nm
def dropO : Option Nat → (Nat → Option Blk) → Nat → Option Blk
  | none, M => M
  | some nm, M => upd M nm none
@[reducible] def lostO (o : Option Nat) (φ : Nat → Nat × Nat) (b : Nat) : Prop := ∃ nm, o = some nm ∧ b = (φ nm).1
theorem gv_rep {c : Ctx} {t : AS} {φ : Nat → Nat × Nat} {a : Act} {W : World} {avs : List Operand} {ds : List DV} {o : Option Nat} (h : GV t avs ds o) (hR : R c t φ a W) : DV.repL (lostO o φ) W ds (avs.map a.eval) ∧ ∀ nm, o = some nm → t.mem nm ≠ none := by
  cases h with
  | flat h hf => exact ⟨repL_flat _ _ hf (viewD_rep hR avs _ (fun _ _ => ge_refl _) h), fun nm h => by cases h⟩
  | @own x avs nm n sz ty cells ds h hm hf h2 hf2 =>
    refine ⟨repL_cons'.2 ⟨?_, repL_flat _ _ hf2 (viewD_rep hR avs _ (fun _ _ => ge_refl _) h2)⟩, fun m hmm => by cases hmm; rw [hm]; simp⟩
    have h1 := hR.ev x
    rw [h] at h1
    exact slice_flat hR hm hf ⟨nm, rfl, rfl⟩ h1

/-- A call of a function that is handed the yield on. -/
theorem awp_callG {P : Program} {c : Fam} {lN : Nat} {xs : List YA} {Q : Exit → AS → Prop} {s : AS} (hI : ItrG P c lN xs) {id : Nat} {l pre post : List Oper} {dst : Tmp} {f : FuncId} {args : Array Operand} {ats : Array TypeId} {ty : TypeId} {ps : String} {af : Array Edge}
    (hl : l = pre ++ ⟨some dst, .call ⟨.value (.func f), args, ats⟩, ty, ps, af, none⟩ :: post) (hd : dstsB c.nt l = true) (he : Enters P f) (k : Nat) (ys : List YA) (hys : ∀ j, j < ys.length → xs[k + j]? = ys[j]?) {ds : List DV} {o : Option Nat} {avs : List Operand} {y : Operand} (hargs : args.toList = avs ++ [y])
    (hGY : GY P f ds [] ys fun b e => e = .returned (.bool b))
    (h : RunT P l.toArray pre s fun _ t => t.ev y = .d (.val (.func (.yield lN) #[] #[])) ∧ GV t avs ds o ∧ t.fr VG = cntV k ∧
      RunT P l.toArray post ⟨upd (upd (fun i => killO o (t.fr i)) VG (cntV (k + ys.length))) dst (.d (.val (.bool true))), dropO o t.mem⟩ (fun _ u => Q .normal u) ∧
      ∀ k', RunT P l.toArray post ⟨upd (upd (fun i => killO o (t.fr i)) VG (stpV k')) dst (.d (.val (.bool false))), dropO o t.mem⟩ (fun _ u => Q .normal u)) : AWp P c (.region id l.toArray false) Q s := ⟨fun φ a w ⟨c', hGG, hR⟩ => by
  obtain ⟨wE, fz0, okS, K0, J, Jx, sJ, nt, rfl, sJ1, sJx1, hY⟩ := hI.run
  obtain ⟨w1, ok1, ex1, rfl, hG⟩ := hGG
  have hds : ∀ o ∈ l, opOk (itc (J2 (gJ wE okS K0 J) (gJ wE okS K0 Jx)) sJ fz0 nt w1 ok1 ex1) o := dstsB_spec l hd
  have hget : ∀ i : Nat, l.toArray[i]? = l[i]? := fun i => List.getElem?_toArray
  have hr : List.range l.toArray.size = List.range pre.length ++ pre.length :: (List.range' (pre.length + 1) post.length) := by
    rw [hl]
    simp only [List.size_toArray, List.length_append, List.length_cons, List.range_eq_range']
    rw [show pre.length + (post.length + 1) = pre.length + (1 + post.length) by omega, ← List.range'_append_1, ← List.range'_append_1]
    simp
  refine wpIn_region ?_
  rw [hr]
  refine runT_on (c := itc (J2 (gJ wE okS K0 J) (gJ wE okS K0 Jx)) sJ fz0 nt w1 ok1 ex1) pre (List.range pre.length) _ s _ (fun k hk => ?_) (by simp) (fun o ho => hds o (by rw [hl]; simp [ho])) h φ a w hR ?_
  · rw [List.getElem?_range hk, Option.bind_some]
    exact (hget k).trans (by rw [hl]; exact List.getElem?_append_left hk)
  rintro rs t φ' a' w' ⟨h1, h2, h3, h4, h5⟩ hR'
  have hi : l.toArray[pre.length]? = some ⟨some dst, .call ⟨.value (.func f), args, ats⟩, ty, ps, af, none⟩ := (hget _).trans (by rw [hl]; exact (List.getElem?_append_right (Nat.le_refl _)).trans (by rw [Nat.sub_self]; rfl))
  have hpo : ∀ k, k < post.length → (List.range' (pre.length + 1) post.length)[k]?.bind (l.toArray[·]?) = post[k]? := fun k hk => by
    rw [List.getElem?_range' (by omega), Option.bind_some]
    refine (hget _).trans ?_
    rw [hl]
    refine (List.getElem?_append_right (by omega)).trans ?_
    rw [show pre.length + 1 + 1 * k - pre.length = k + 1 by omega]
    rfl
  have hdst : dst < nt := (hds ⟨some dst, .call ⟨.value (.func f), args, ats⟩, ty, ps, af, none⟩ (by rw [hl]; simp)).1 dst rfl
  rw [wpOpsIn_cons]
  unfold Go.wpOpIn
  simp only [hi]
  rw [if_pos (by simp [Region.wanted])]
  refine op_in (fun d h => by cases h) ?_
  have hy : a'.eval y = .func (.yield lN) #[] #[] := by
    have := hR'.ev y
    rw [h1] at this
    exact (rep_val (ok := okOf (itc (J2 (gJ wE okS K0 J) (gJ wE okS K0 Jx)) sJ fz0 nt w1 ok1 ex1) φ' t) (w := w')).1 this
  obtain ⟨K, ⟨hJ, hK1⟩, hK2, hK3, hK4⟩ := hR'.gh _ h3
  obtain ⟨hJ1, hKn⟩ := J2.even.1 hJ
  obtain ⟨hrep, hon⟩ := gv_rep h2 hR'
  have harg : args.map a'.eval = (avs.map a'.eval ++ [Value.func (.yield lN) #[] #[]]).toArray := by
    rw [← Array.toArray_toList (xs := args.map a'.eval), Array.toList_map, hargs, List.map_append, List.map_cons, hy]
    rfl
  unfold Oper.wp
  rw [run_callFn he]
  show Calls P f (args.map a'.eval) w' _
  rw [harg]
  have hE : ∀ b, lostO o φ' b → b < w'.heap.size ∧ wE.heap.size ≤ b ∧ ¬ K b := fun b ⟨nm, e, hb⟩ => by
    subst hb
    have hn := hon nm e
    obtain ⟨blk, hblk⟩ := Option.ne_none_iff_exists'.1 hn
    exact ⟨hR'.lt hn, gin_mine hG (hR'.own nm blk hblk), hK2 nm hn⟩
  refine (hGY fz0 (lostO o φ') w' (avs.map a'.eval) [] lN (fun j => J (k + j)) (fun j => Jx (k + j)) K hrep (repL_nil.2 rfl) (fun b hb => ⟨(hE b hb).1, .inr (hE b hb).2.2⟩) (fun j => sJ1 (k + j)) (fun j => sJx1 (k + j))
    (fun j K W d args okA hx hj => hY (k + j) K W d args okA (by rw [hys j (List.getElem?_eq_some_iff.1 hx).1]; exact hx) hj) hJ1 hK3).mono ?_
  rintro e W' ⟨hs, K', k2, k3, k4, hc⟩
  have hnE : ∀ b, okOf (itc (J2 (gJ wE okS K0 J) (gJ wE okS K0 Jx)) sJ fz0 nt w1 ok1 ex1) φ' t b → ¬ lostO o φ' b := fun b hb ⟨nm, e, h⟩ => un_named hR' hb (hon nm e) h.symm
  have hkp : Keeps (okOf (itc (J2 (gJ wE okS K0 J) (gJ wE okS K0 Jx)) sJ fz0 nt w1 ok1 ex1) φ' t) w' (fun b => okOf (itc (J2 (gJ wE okS K0 J) (gJ wE okS K0 Jx)) sJ fz0 nt w1 ok1 ex1) φ' t b ∧ ¬ lostO o φ' b) w' := Keeps.wide fun b hb _ => ⟨hb, hnE b hb⟩
  have hdr : ∀ nm blk, dropO o t.mem nm = some blk → t.mem nm = some blk ∧ ¬ lostO o φ' (φ' nm).1 := fun nm blk hn => by
    cases o with
    | none => exact ⟨hn, fun ⟨_, e, _⟩ => by cases e⟩
    | some n =>
      have hn : upd t.mem n none nm = some blk := hn
      by_cases e : nm = n
      · subst e; rw [upd_same] at hn; cases hn
      · rw [upd_ne _ _ e] at hn
        refine ⟨hn, fun ⟨n', e1, e2⟩ => ?_⟩
        cases e1
        exact hR'.inj nm n (by rw [hn]; simp) (hon n rfl) e e2
  have hfr : ∀ i, i ≠ VG → (killO o (t.fr i)).rep (fun b => okOf (itc (J2 (gJ wE okS K0 J) (gJ wE okS K0 Jx)) sJ fz0 nt w1 ok1 ex1) φ' t b ∧ ¬ lostO o φ' b) φ' w' (slotAt (itc (J2 (gJ wE okS K0 J) (gJ wE okS K0 Jx)) sJ fz0 nt w1 ok1 ex1) a' φ' i) := fun i hi => by
    have h6 := AV.rep_keeps hkp (hR'.fr i hi)
    cases o with
    | none => exact h6
    | some n => exact AV.rep_kill (fun _ _ => rfl) h6
  have hG2 := gin_step (S := lostO o φ') (E := lostO o φ') (t' := ⟨fun i => killO o (t.fr i), dropO o t.mem⟩) hG hR' (fun nm hn => by
    obtain ⟨blk, hblk⟩ := Option.ne_none_iff_exists'.1 hn
    rw [(hdr nm blk hblk).1]; simp) hKn hs (fun b hb => (hE b hb).2.1) k4
  have hKn2 : ∀ b, K' b → K0 b ∨ okS b ∨ wE.heap.size ≤ b := fun b hb => by
    rcases k2 b hb with h6 | h6 | h6
    · exact hKn b h6
    · exact .inr (.inr (hE b h6).2.1)
    · exact .inr (.inr (Nat.le_trans hG.same.size (Nat.le_trans hR'.below.size h6)))
  have fin : ∀ (m : Nat) (b : Bool), J2 (gJ wE okS K0 J) (gJ wE okS K0 Jx) m K' W' → RunT P l.toArray post ⟨upd (upd (fun i => killO o (t.fr i)) VG (.d (.val (.int .i64 (m : Int))))) dst (.d (.val (.bool b))), dropO o t.mem⟩ (fun _ u => Q .normal u) →
      wpOpsIn (fz none) 0 P l.toArray (fun e a w => ∃ t φ, Q e t ∧ RF (itG wE fz0 okS K0 (J2 (gJ wE okS K0 J) (gJ wE okS K0 Jx)) sJ nt) t φ a w) (List.range' (pre.length + 1) post.length) (a'.put (some dst) (.bool b)) W' := fun m b hj hrn => by
    have hR2 := rebaseG (S := lostO o φ') (t' := ⟨fun i => killO o (t.fr i), dropO o t.mem⟩) hR' hfr (fun nm blk hn => ⟨(hdr nm blk hn).1, (hdr nm blk hn).2, (hR'.mem nm blk (hdr nm blk hn).1).keeps hkp rfl⟩) hK1 (fun nm hn => by
      obtain ⟨blk, hblk⟩ := Option.ne_none_iff_exists'.1 hn
      exact hK2 nm (by rw [(hdr nm blk hblk).1]; simp)) hs k2 k3 k4 hj
    have hR3 := hR2.put (dst := some dst) (r := .d (.val (.bool b))) (v := .bool b) (fun x hx => by cases hx; exact hdst) (by show DV.rep _ W' _ _; exact valX_rep _ _ _)
    exact runT_wp post _ _ _ hpo (by simp) (by intro o ho; exact hds o (by rw [hl]; simp [ho])) hrn φ' _ W' hR3 fun rs u φ2 a2 w2 hq hR4 => ⟨u, φ2, hq, _, ⟨W', _, _, rfl, hG2⟩, hR4⟩
  rcases hc with ⟨rfl, hj⟩ | ⟨rfl, k', hj⟩
  · exact fin _ true (J2.even.2 ⟨hj, hKn2⟩) h4
  · exact fin _ false (J2.odd.2 ⟨hj, hKn2⟩) (h5 _)⟩

/-- How a function ends that is handed a yield: it tells whether all was wanted. -/
def GRet (rs : List ResultVar) (xs : List YA) : Exit → AS → Prop
  | .normal, t | .ret, t => ∃ i b, rs = [.tmp i] ∧ t.ev (.tmp i) = .d (.val (.bool b)) ∧ ((b = true ∧ t.fr VG = cntV xs.length) ∨ (b = false ∧ ∃ k, t.fr VG = stpV k))
  | _, _ => False
/-- The same, without a result. -/
def GRet0 (rs : List ResultVar) (xs : List YA) : Exit → AS → Prop
  | .normal, t | .ret, t => rs = [] ∧ (t.fr VG = cntV xs.length ∨ ∃ k, t.fr VG = stpV k)
  | _, _ => False

theorem gy_core {P : Program} {f : FuncId} {fn : Func} {code : Code} {ds1 ds2 : List DV} {xs : List YA} {rv : Bool → Ending → Prop} {T : Exit → AS → Prop} (hf : P.funcs[f]? = some fn) (hb : fn.body = some code)
    (hn : (Nat.ble (ds1 ++ DV.any :: ds2).length fn.ntmps && Nat.ble fn.ntmps VG) = true) (h : ∀ w fz0 okS K0 J sJ l, ItrG P (itG w fz0 okS K0 J sJ fn.ntmps) l xs → AWp P (itG w fz0 okS K0 J sJ fn.ntmps) code T (entryY ds1 l ds2))
    (hT : ∀ e t, T e t → (e = .normal ∨ e = .ret) ∧ ∃ b, ((b = true ∧ t.fr VG = cntV xs.length) ∨ (b = false ∧ ∃ k, t.fr VG = stpV k)) ∧ ∀ (c : Ctx) (φ : Nat → Nat × Nat) (a : Act) (W : World), R c t φ a W → ∃ v, (results fn a.tmps).run P W = .ok v W ∧ rv b (.returned v)) : GY P f ds1 ds2 xs rv := by
  intro fz0 okS w vs us l J Jx K0 hvs hus hokS sJ sJx hY hJ0 hK0
  have hr : DV.repL okS w (ds1 ++ .val (.func (.yield l) #[] #[]) :: ds2) (vs ++ .func (.yield l) #[] #[] :: us) := repL_append hvs (repL_cons'.2 ⟨rep_val.2 rfl, hus⟩)
  have hnn : (Nat.ble (ds1 ++ DV.val (.func (.yield l) #[] #[]) :: ds2).length fn.ntmps && Nat.ble fn.ntmps VG) = true := by
    rw [← hn]; simp
  have sG : Stable (J2 (gJ w okS K0 J) (gJ w okS K0 Jx)) := (Stable.gJ sJ).J2 (Stable.gJ sJx)
  refine callsIn_wide.1 (callsIn_of_wp_marks (F := Fence.wide) (n := 0) hf hb trivial ?_)
  have hR0 : R (itc (J2 (gJ w okS K0 J) (gJ w okS K0 Jx)) sG fz0 fn.ntmps w okS (fun _ => False)) (entry (ds1 ++ .val (.func (.yield l) #[] #[]) :: ds2)) (fun _ => (0, 0)) { tmps := (vs ++ .func (.yield l) #[] #[] :: us).toArray ++ Array.replicate (fn.ntmps - (vs ++ .func (.yield l) #[] #[] :: us).toArray.size) undef, defers := [] } w :=
    entry_R rfl hnn (fun _ _ _ h => h) hr (fun _ => rfl)
  have hR : R (itc (J2 (gJ w okS K0 J) (gJ w okS K0 Jx)) sG fz0 fn.ntmps w okS (fun _ => False)) (entryY ds1 l ds2) (fun _ => (0, 0)) { tmps := (vs ++ .func (.yield l) #[] #[] :: us).toArray ++ Array.replicate (fn.ntmps - (vs ++ .func (.yield l) #[] #[] :: us).toArray.size) undef, defers := [] } w := by
    refine ⟨hR0.below, hR0.defers, hR0.size, hR0.ntv, fun i hi => ?_, hR0.own, hR0.mem, hR0.inj, fun k hk => ?_⟩
    · show AV.rep _ _ w (upd (entry (ds1 ++ .val (.func (.yield l) #[] #[]) :: ds2)).fr VG (cntV 0) i) _
      rw [upd_ne _ _ hi]
      exact hR0.fr i hi
    · have hk : upd (entry (ds1 ++ .val (.func (.yield l) #[] #[]) :: ds2)).fr VG (cntV 0) VG = .d (.val (.int .i64 (k : Int))) := hk
      rw [upd_same] at hk
      have hk0 : k = 2 * 0 := by
        unfold cntV at hk
        injection hk with hk; injection hk with hk; injection hk with _ hk
        omega
      subst hk0
      exact ⟨K0, ⟨J2.even.2 ⟨hJ0, fun b hb => .inl hb⟩, fun b hb => ⟨hK0 b hb, fun h => h, fun hk => (hokS b hk).2.resolve_right fun hn => hn hb⟩⟩, fun nm hn => absurd rfl hn, hK0, fun D hD => by cases hD⟩
  have hitr : ItrG P (itG w fz0 okS K0 (J2 (gJ w okS K0 J) (gJ w okS K0 Jx)) sG fn.ntmps) l xs := ⟨w, fz0, okS, K0, J, Jx, sG, fn.ntmps, rfl, sJ, sJx, hY⟩
  refine wpIn_mono ((h _ _ _ _ _ _ l hitr).run _ _ _ ⟨_, ⟨w, okS, fun _ => False, rfl, ⟨SameW.refl w, fun _ h => h.elim, fun b hb => .inl hb, fun _ _ _ _ => rfl⟩⟩, hR⟩) ?_
  rintro e a w' ⟨t, φ, hq, c', ⟨w1, ok1, ex1, rfl, hG⟩, hR'⟩
  obtain ⟨he, b, hb1, hb2⟩ := hT e t hq
  have fin : LeavesInM Fence.wide 0 P fn a.tmps (fun e w' => SameW w w' ∧ ∃ K', (∀ b, K' b → K0 b ∨ okS b ∨ w.heap.size ≤ b) ∧ (∀ b, K' b → b < w'.heap.size) ∧ (∀ b, b < w.heap.size → (fz0 b ∨ ¬ K0 b) → ¬ okS b → w'.heap[b]? = w.heap[b]?) ∧
      ((rv true e ∧ J xs.length K' w') ∨ (rv false e ∧ ∃ k, Jx k K' w'))) a.defers .returning w' := by
    refine hR'.leaves fun w2 hR2 => ?_
    obtain ⟨v, h1, h2⟩ := hb2 _ _ _ _ hR2
    refine ⟨v, h1, hG.same.trans hR2.below.same, ?_⟩
    have hold : ∀ b, b < w.heap.size → (fz0 b ∨ ¬ K0 b) → ¬ okS b → w2.heap[b]? = w.heap[b]? := fun b hb h3 h4 => (hR2.below.block b (Nat.lt_of_lt_of_le hb hG.same.size) fun he => by have := hG.exn b he; omega).trans (hG.old b hb h3 h4)
    rcases hb1 with ⟨rfl, hq⟩ | ⟨rfl, k, hq⟩
    · obtain ⟨K, h5, _, h6, _⟩ := hR2.gh _ hq
      obtain ⟨h7, h8⟩ := J2.even.1 h5.1
      exact ⟨K, h8, h6, hold, .inl ⟨h2, h7⟩⟩
    · obtain ⟨K, h5, _, h6, _⟩ := hR2.gh _ hq
      obtain ⟨h7, h8⟩ := J2.odd.1 h5.1
      exact ⟨K, h8, h6, hold, .inr ⟨h2, k, h7⟩⟩
  rcases he with rfl | rfl
  · exact fin
  · exact fin

theorem gy_body {P : Program} {f : FuncId} {fn : Func} {code : Code} {ds1 ds2 : List DV} {xs : List YA} (hf : P.funcs[f]? = some fn) (hb : fn.body = some code) (hn : (Nat.ble (ds1 ++ DV.any :: ds2).length fn.ntmps && Nat.ble fn.ntmps VG) = true)
    (h : ∀ w fz0 okS K0 J sJ l, ItrG P (itG w fz0 okS K0 J sJ fn.ntmps) l xs → AWp P (itG w fz0 okS K0 J sJ fn.ntmps) code (GRet fn.results.toList xs) (entryY ds1 l ds2)) : GY P f ds1 ds2 xs fun b e => e = .returned (.bool b) := by
  refine gy_core hf hb hn h fun e t ht => ?_
  have key : (∃ i b, fn.results.toList = [.tmp i] ∧ t.ev (.tmp i) = .d (.val (.bool b)) ∧ ((b = true ∧ t.fr VG = cntV xs.length) ∨ (b = false ∧ ∃ k, t.fr VG = stpV k))) → ∃ b, ((b = true ∧ t.fr VG = cntV xs.length) ∨ (b = false ∧ ∃ k, t.fr VG = stpV k)) ∧ ∀ (c : Ctx) (φ : Nat → Nat × Nat) (a : Act) (W : World), R c t φ a W → ∃ v, (results fn a.tmps).run P W = .ok v W ∧ (.returned v : Ending) = .returned (.bool b) := by
    rintro ⟨i, b, h1, h2, h3⟩
    refine ⟨b, h3, fun c φ a W hR => ⟨.bool b, ?_, rfl⟩⟩
    have h4 := hR.ev (.tmp i)
    rw [h2] at h4
    have h4 : a.tmps.getD i undef = .bool b := (rep_val (ok := okOf c φ t) (w := W)).1 h4
    have hra : fn.results = #[.tmp i] := by rw [← Array.toArray_toList (xs := fn.results), h1]
    have hm1 : ((#[ResultVar.tmp i] : Array ResultVar).mapM (m := Sem) fun | .tmp t => pure (a.tmps.getD t undef) | .cell x t => do loadVar t (← asAddr (a.tmps.getD x undef))).run P W = .ok #[a.tmps.getD i undef] W := by
      rw [List.mapM_toArray, Sem.run_map]
      simp
    unfold results
    rw [hra, Sem.run_bind]
    refine (congrArg (fun r => Result.andThen r _) hm1).trans ?_
    simp [h4]
  cases e with
  | normal => exact ⟨.inl rfl, key ht⟩
  | ret => exact ⟨.inr rfl, key ht⟩
  | exit id => exact ht.elim
  | goto l => exact ht.elim
  | panic ch => exact ht.elim
  | outgrown => exact ht.elim
/-- An iterator that hands its yield on. -/
theorem ay_bodyG {P : Program} {f : FuncId} {fn : Func} {code : Code} {bs caps : List DV} {xs : List YA} (hf : P.funcs[f]? = some fn) (hb : fn.body = some code) (hres : fn.results = #[]) (hn : (Nat.ble (bs ++ DV.any :: caps).length fn.ntmps && Nat.ble fn.ntmps VG) = true)
    (h : ∀ w fz0 okS K0 J sJ l, ItrG P (itG w fz0 okS K0 J sJ fn.ntmps) l xs → AWp P (itG w fz0 okS K0 J sJ fn.ntmps) code (GRet0 [] xs) (entryY bs l caps)) : AY P f bs caps xs true := by
  refine AY.of_gy (gy_core hf hb hn h fun e t ht => ?_)
  have key : (([] : List ResultVar) = [] ∧ (t.fr VG = cntV xs.length ∨ ∃ k, t.fr VG = stpV k)) → ∃ b, ((b = true ∧ t.fr VG = cntV xs.length) ∨ (b = false ∧ ∃ k, t.fr VG = stpV k)) ∧ ∀ (c : Ctx) (φ : Nat → Nat × Nat) (a : Act) (W : World), R c t φ a W → ∃ v, (results fn a.tmps).run P W = .ok v W ∧ ∃ u, (.returned v : Ending) = .returned u := by
    rintro ⟨_, h3⟩
    have hrun : ∀ (a : Act) (W : World), (results fn a.tmps).run P W = .ok (.tuple #[]) W := fun a W => by
      unfold results
      rw [hres]
      simp
    rcases h3 with h3 | h3
    · exact ⟨true, .inl ⟨rfl, h3⟩, fun c φ a W _ => ⟨_, hrun a W, _, rfl⟩⟩
    · exact ⟨false, .inr ⟨rfl, h3⟩, fun c φ a W _ => ⟨_, hrun a W, _, rfl⟩⟩
  cases e with
  | normal => exact ⟨.inl rfl, key ht⟩
  | ret => exact ⟨.inr rfl, key ht⟩
  | exit id => exact ht.elim
  | goto l => exact ht.elim
  | panic ch => exact ht.elim
  | outgrown => exact ht.elim

end Go.Proofs.Ytemihhkbieplmaa
