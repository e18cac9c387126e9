/- Merged: XAi XAj XAk. -/
import Derived.Test.YtgjhikjnlcbmkaaMh
import Derived.ChangeKeysEq
import Derived.Laws.MakeOwn
import Derived.Laws.Cover3
set_option linter.unusedVariables false
set_option linter.unusedSimpArgs false
/- The moves of a walk on abstract states. Nothing of the program. -/
namespace Go.Proofs.Ytgjhikjnlcbmkaa
open Go.RowKit

abbrev I (n : Int) : DV := .val (.int .i64 n)
abbrev B (b : Bool) : DV := .val (.bool b)
abbrev S (b : ByteArray) : DV := .val (.string b)

section
variable {P : Program} {ops : Array Oper} {l : List Oper} {F : Nat → AV} {M : Nat → Option Blk} {K : List Rec → AS → Prop} {op : Op} {ty : TypeId} {ps : String} {af : Array Edge} {gd : Option (Nat × Bool)}

theorem r_nil {s : AS} (h : K [] s) : RunT P ops [] s K := h
theorem r_put {d : Nat} {rd : List Nat} {r : AV} (hd : ∀ gd, Does P ⟨some d, op, ty, ps, af, gd⟩ ⟨F, M⟩ rd (.put r)) (h : RunT P ops l ⟨upd F d r, M⟩ fun rs => K (⟨.put r, rd, tchOf ⟨some d, op, ty, ps, af, none⟩ ⟨F, M⟩⟩ :: rs)) : RunT P ops (⟨some d, op, ty, ps, af, none⟩ :: l) ⟨F, M⟩ K :=
  ⟨_, rd, .plain rfl (hd none), h⟩
theorem r_new {d : Nat} {rd : List Nat} {blk : Blk} {r : AV} (hd : ∀ gd, Does P ⟨some d, op, ty, ps, af, gd⟩ ⟨F, M⟩ rd (.newBlk blk r)) (h : RunT P ops l ⟨upd (fun i => (F i).kill d) d r, upd M d (some blk)⟩ fun rs => K (⟨.newBlk blk r, rd, tchOf ⟨some d, op, ty, ps, af, none⟩ ⟨F, M⟩⟩ :: rs)) : RunT P ops (⟨some d, op, ty, ps, af, none⟩ :: l) ⟨F, M⟩ K :=
  ⟨_, rd, .plain rfl (hd none), h⟩
theorem r_set {nm : Nat} {rd : List Nat} {blk : Blk} (hd : ∀ gd, Does P ⟨none, op, ty, ps, af, gd⟩ ⟨F, M⟩ rd (.setBlk nm blk)) (h : RunT P ops l ⟨F, upd M nm (some blk)⟩ fun rs => K (⟨.setBlk nm blk, rd, tchOf ⟨none, op, ty, ps, af, none⟩ ⟨F, M⟩⟩ :: rs)) : RunT P ops (⟨none, op, ty, ps, af, none⟩ :: l) ⟨F, M⟩ K :=
  ⟨_, rd, .plain rfl (hd none), h⟩
theorem r_app {d nm : Nat} {rd : List Nat} {blk : Blk} {r : AV} (hd : ∀ gd, Does P ⟨some d, op, ty, ps, af, gd⟩ ⟨F, M⟩ rd (.app nm blk r)) (h : RunT P ops l ⟨upd (fun i => ((F i).kill nm).kill d) d r, upd (upd M nm none) d (some blk)⟩ fun rs => K (⟨.app nm blk r, rd, tchOf ⟨some d, op, ty, ps, af, none⟩ ⟨F, M⟩⟩ :: rs)) : RunT P ops (⟨some d, op, ty, ps, af, none⟩ :: l) ⟨F, M⟩ K :=
  ⟨_, rd, .plain rfl (hd none), h⟩
theorem r_appV {d nm : Nat} {rd : List Nat} {r : AV} (hd : ∀ gd, Does P ⟨some d, op, ty, ps, af, gd⟩ ⟨F, M⟩ rd (.appV nm r)) (h : RunT P ops l ⟨upd (fun i => ((F i).kill nm).kill d) d r, upd (upd M nm none) d none⟩ fun rs => K (⟨.appV nm r, rd, tchOf ⟨some d, op, ty, ps, af, none⟩ ⟨F, M⟩⟩ :: rs)) : RunT P ops (⟨some d, op, ty, ps, af, none⟩ :: l) ⟨F, M⟩ K :=
  ⟨_, rd, .plain rfl (hd none), h⟩
theorem r_noT {d j t : Nat} {q : Bool} (hg : gtmp ops ⟨some d, op, ty, ps, af, some (j, true)⟩ = some (t, true)) (hb : (AS.mk F M).ev (.tmp t) = .d (.val (.bool q))) (hq : q = false)
    (h : RunT P ops l ⟨upd F d (.d (.val undef)), M⟩ fun rs => K (⟨.put (.d (.val undef)), [], tchOf ⟨some d, op, ty, ps, af, some (j, true)⟩ ⟨F, M⟩⟩ :: rs)) : RunT P ops (⟨some d, op, ty, ps, af, some (j, true)⟩ :: l) ⟨F, M⟩ K :=
  ⟨_, [], .no hg hb (by rw [hq]; simp), h⟩
theorem r_noF {d j t : Nat} {q : Bool} (hg : gtmp ops ⟨some d, op, ty, ps, af, some (j, false)⟩ = some (t, false)) (hb : (AS.mk F M).ev (.tmp t) = .d (.val (.bool q))) (hq : q = true)
    (h : RunT P ops l ⟨upd F d (.d (.val undef)), M⟩ fun rs => K (⟨.put (.d (.val undef)), [], tchOf ⟨some d, op, ty, ps, af, some (j, false)⟩ ⟨F, M⟩⟩ :: rs)) : RunT P ops (⟨some d, op, ty, ps, af, some (j, false)⟩ :: l) ⟨F, M⟩ K :=
  ⟨_, [], .no hg hb (by rw [hq]; simp), h⟩
theorem r_noU {d j t : Nat} {b : Bool} (hg : gtmp ops ⟨some d, op, ty, ps, af, some (j, b)⟩ = some (t, b)) (hb : (AS.mk F M).ev (.tmp t) = .d (.val undef))
    (h : RunT P ops l ⟨upd F d (.d (.val undef)), M⟩ fun rs => K (⟨.put (.d (.val undef)), [], tchOf ⟨some d, op, ty, ps, af, some (j, b)⟩ ⟨F, M⟩⟩ :: rs)) : RunT P ops (⟨some d, op, ty, ps, af, some (j, b)⟩ :: l) ⟨F, M⟩ K :=
  ⟨_, [], .nor hg hb, h⟩
theorem r_splitD {dst : Option Tmp} {j t : Nat} {b : Bool} {p : Prop} {_ : Decidable p} (hg : gtmp ops ⟨dst, op, ty, ps, af, some (j, b)⟩ = some (t, b)) (hb : (AS.mk F M).ev (.tmp t) = .d (.val (.bool (decide p)))) (h1 : p → RunT P ops (⟨dst, op, ty, ps, af, some (j, b)⟩ :: l) ⟨F, M⟩ K)
    (h2 : ¬ p → RunT P ops (⟨dst, op, ty, ps, af, some (j, b)⟩ :: l) ⟨F, M⟩ K) : RunT P ops (⟨dst, op, ty, ps, af, some (j, b)⟩ :: l) ⟨F, M⟩ K := by
  by_cases h : p
  · exact h1 h
  · exact h2 h
theorem r_split {dst : Option Tmp} {j t : Nat} {b q : Bool} (hg : gtmp ops ⟨dst, op, ty, ps, af, some (j, b)⟩ = some (t, b)) (hb : (AS.mk F M).ev (.tmp t) = .d (.val (.bool q))) (h1 : q = true → RunT P ops (⟨dst, op, ty, ps, af, some (j, b)⟩ :: l) ⟨F, M⟩ K)
    (h2 : q = false → RunT P ops (⟨dst, op, ty, ps, af, some (j, b)⟩ :: l) ⟨F, M⟩ K) : RunT P ops (⟨dst, op, ty, ps, af, some (j, b)⟩ :: l) ⟨F, M⟩ K := by
  cases hq : q
  · exact h2 hq
  · exact h1 hq
end

/-! What an operation does, with the types found by instances. -/
section
variable {P : Program} {s : AS} {ty : TypeId} {ps : String} {af : Array Edge} {dst : Option Tmp} {t t' : TypeId} {x y : Operand} {k : IntKind}

theorem o_move {r : AV} (h : s.ev x = r) (gd : Option (Nat × Bool)) : Does P ⟨dst, .move x, ty, ps, af, gd⟩ s [] (.put r) := h ▸ does_move x
theorem o_assign {r : AV} (h : s.ev x = r) (gd : Option (Nat × Bool)) : Does P ⟨dst, .assign x, ty, ps, af, gd⟩ s [] (.put r) := h ▸ does_assign x
theorem o_field {f k nm off : Nat} [h : FldI P t f k] (hx : s.ev x = .ptr nm off) {o : Nat} (ho : off + k = o) (gd : Option (Nat × Bool)) : Does P ⟨dst, .fieldAddr t x f, ty, ps, af, gd⟩ s [] (.put (.ptr nm o)) := ho ▸ does_field h.eq hx
theorem o_fieldR {f k : Nat} {cs : List DV} [h : FldI P t f k] (hx : s.ev x = .d (.ref cs)) (gd : Option (Nat × Bool)) : Does P ⟨dst, .fieldAddr t x f, ty, ps, af, gd⟩ s [] (.put (.d (.ref (cs.drop k)))) := does_fieldR h.eq hx
theorem o_load1 {nm off n : Nat} {blk : Blk} {r : DV} [h : TyI P t false n] (hx : s.ev x = .ptr nm off) (hm : s.mem nm = some blk) (hr : (blk.cells.drop off)[0]? = some r) (gd : Option (Nat × Bool)) : Does P ⟨dst, .load t x, ty, ps, af, gd⟩ s [nm] (.put (.d r)) :=
  does_load hx hm (.one h.eq hr)
theorem o_loadA {nm off n : Nat} {blk : Blk} [h : TyI P t true n] (hx : s.ev x = .ptr nm off) (hm : s.mem nm = some blk) (hn : n ≤ (blk.cells.drop off).length) {r : List DV} (hr : (blk.cells.drop off).take n = r) (gd : Option (Nat × Bool)) : Does P ⟨dst, .load t x, ty, ps, af, gd⟩ s [nm] (.put (.d (.agg r))) :=
  hr ▸ does_load hx hm (.agg h.eq hn)
theorem o_loadR1 {n : Nat} {cs : List DV} {r : DV} [h : TyI P t false n] (hx : s.ev x = .d (.ref cs)) (hr : cs[0]? = some r) (gd : Option (Nat × Bool)) : Does P ⟨dst, .load t x, ty, ps, af, gd⟩ s [] (.put (.d r)) := does_loadR hx (.one h.eq hr)
theorem o_loadRA {n : Nat} {cs : List DV} [h : TyI P t true n] (hx : s.ev x = .d (.ref cs)) (hn : n ≤ cs.length) {r : List DV} (hr : cs.take n = r) (gd : Option (Nat × Bool)) : Does P ⟨dst, .load t x, ty, ps, af, gd⟩ s [] (.put (.d (.agg r))) := hr ▸ does_loadR hx (.agg h.eq hn)
theorem o_store {nm off n : Nat} {g : Bool} {blk : Blk} {v : DV} {cs : List DV} [h : TyI P t g n] (hx : s.ev x = .ptr nm off) (hm : s.mem nm = some blk) (hy : s.ev y = .d v) (hc : cellsOf v = some cs) (hn : cs.length = n) (hl : off + n ≤ blk.cells.length) {new : List DV} (hnew : spl blk.cells off cs = new) (gd : Option (Nat × Bool)) :
    Does P ⟨dst, .store t x y, ty, ps, af, gd⟩ s [nm] (.setBlk nm ⟨blk.ty, new⟩) := does_store hx hm hy hc h.eq hn hl hnew
theorem o_alloc {d : Nat} {zs : List Value} [h : ZroI P t zs] {cs : List DV} (hc : zs.map DV.val = cs) (gd : Option (Nat × Bool)) : Does P ⟨some d, .alloc t, ty, ps, af, gd⟩ s [] (.newBlk ⟨t, cs⟩ (.ptr d 0)) := hc ▸ does_alloc h.eq
theorem o_box {d : Nat} {v : DV} {cs : List DV} (hx : s.ev x = .d v) (hc : cellsOf v = some cs) (gd : Option (Nat × Bool)) : Does P ⟨some d, .box t x, ty, ps, af, gd⟩ s [] (.newBlk ⟨t, cs⟩ (.ptr d 0)) := does_box hx hc
theorem o_buildS {parts : Array (Nat × Operand)} {zs : List Value} {ls : List (Nat × Nat)} {ps' : List (Nat × DV)} {r : List DV} [hz : ZroI P t zs] [hs : StrI P t ls] (hp : partsOf s parts.toList = some ps')
    (hr : afill (fun i => ls[i]?) (zs.map DV.val) ps' = some r) (gd : Option (Nat × Bool)) : Does P ⟨dst, .build t parts, ty, ps, af, gd⟩ s [] (.put (.d (.agg r))) := does_buildS hz.eq hs.eq hp hr
theorem o_buildA {parts : Array (Nat × Operand)} {zs : List Value} {n sz : Nat} {ps' : List (Nat × DV)} {r : List DV} [hz : ZroI P t zs] [hs : IdxI P t true n sz] (hp : partsOf s parts.toList = some ps')
    (hr : afill (fun i => some (i * sz, sz)) (zs.map DV.val) ps' = some r) (gd : Option (Nat × Bool)) : Does P ⟨dst, .build t parts, ty, ps, af, gd⟩ s [] (.put (.d (.agg r))) := does_buildA hz.eq hs.eq hp hr
theorem o_buildSl {d n e sz bytes : Nat} {parts : Array (Nat × Operand)} {zs : List Value} {ps' : List (Nat × DV)} {r : List DV} [ht : SliI P t e sz bytes zs] (hp : partsOf s parts.toList = some ps') (hn : n * sz ≤ 16777216)
    (hr : afill (fun i => some (i * sz, sz)) ((zeros zs (n * sz)).map DV.val) ps' = some r) (gd : Option (Nat × Bool)) : Does P ⟨some d, .buildSlice t n parts, ty, ps, af, gd⟩ s [] (.newBlk ⟨e, r⟩ (.lsl d 0 n sz)) := does_buildSl ht.eq hp hn hr
theorem o_indexP {n sz nm off : Nat} {i : Int} [ht : IdxI P t true n sz] (hx : s.ev x = .ptr nm off) (hy : s.ev y = .d (.val (.int k i))) (h0 : 0 ≤ i) (h1 : i < n) {o : Nat} (ho : off + i.toNat * sz = o) (gd : Option (Nat × Bool)) : Does P ⟨dst, .indexAddr t x y, ty, ps, af, gd⟩ s [] (.put (.ptr nm o)) := ho ▸ does_indexP ht.eq hx hy h0 h1
theorem o_indexL {n sz nm off len : Nat} {i : Int} [ht : IdxI P t false n sz] (hx : s.ev x = .lsl nm off len sz) (hy : s.ev y = .d (.val (.int k i))) (h0 : 0 ≤ i) (h1 : i < len) {o : Nat} (ho : off + i.toNat * sz = o) (gd : Option (Nat × Bool)) : Does P ⟨dst, .indexAddr t x y, ty, ps, af, gd⟩ s [] (.put (.ptr nm o)) := ho ▸ does_indexL ht.eq hx hy h0 h1
theorem o_indexS {n sz len : Nat} {cs : List DV} {i : Int} [ht : IdxI P t false n sz] (hx : s.ev x = .d (.slice len cs)) (hy : s.ev y = .d (.val (.int k i))) (h0 : 0 ≤ i) (h1 : i < len) (hne : cs ≠ []) (gd : Option (Nat × Bool)) : Does P ⟨dst, .indexAddr t x y, ty, ps, af, gd⟩ s [] (.put (.d (.ref (cs.drop (i.toNat * sz))))) := does_indexS ht.eq hx hy h0 h1 hne
theorem o_indexR {n sz : Nat} {cs : List DV} {i : Int} [ht : IdxI P t true n sz] (hx : s.ev x = .d (.ref cs)) (hy : s.ev y = .d (.val (.int k i))) (h0 : 0 ≤ i) (h1 : i < n) (gd : Option (Nat × Bool)) : Does P ⟨dst, .indexAddr t x y, ty, ps, af, gd⟩ s [] (.put (.d (.ref (cs.drop (i.toNat * sz))))) := does_indexR ht.eq hx hy h0 h1
theorem o_lenS {n : Nat} {cs : List DV} {e : TypeId} [ht : UndI P t (.slice e)] (hx : s.ev x = .d (.slice n cs)) (gd : Option (Nat × Bool)) : Does P ⟨dst, .call ⟨.builtin .len, #[x], #[t]⟩, ty, ps, af, gd⟩ s [] (.put (.d (.val (.int .i64 n)))) := does_lenS ht.eq hx
theorem o_lenL {nm off n sz : Nat} {e : TypeId} [ht : UndI P t (.slice e)] (hx : s.ev x = .lsl nm off n sz) (gd : Option (Nat × Bool)) : Does P ⟨dst, .call ⟨.builtin .len, #[x], #[t]⟩, ty, ps, af, gd⟩ s [] (.put (.d (.val (.int .i64 n)))) := does_lenL ht.eq hx
theorem o_lenN {e : TypeId} [ht : UndI P t (.slice e)] (hx : s.ev x = .d (.val (.slice none 0 0))) (gd : Option (Nat × Bool)) : Does P ⟨dst, .call ⟨.builtin .len, #[x], #[t]⟩, ty, ps, af, gd⟩ s [] (.put (.d (.val (.int .i64 0)))) := does_lenN ht.eq hx
theorem o_lenT {b : ByteArray} [ht : UndI P t .string] (hx : s.ev x = .d (.val (.string b))) (gd : Option (Nat × Bool)) : Does P ⟨dst, .call ⟨.builtin .len, #[x], #[t]⟩, ty, ps, af, gd⟩ s [] (.put (.d (.val (.int .i64 b.size)))) := does_lenT ht.eq hx
theorem o_call {f : FuncId} {args : Array Operand} {ats : Array TypeId} {dvs : List DV} {rd : List Nat} {r : DV} [he : EntI P f] (hv : viewL s args.toList = some (dvs, rd)) (hAC : AC P f dvs r) (hfl : rd = [] ∨ r.flat = true) (gd : Option (Nat × Bool)) :
    Does P ⟨dst, .call ⟨.value (.func f), args, ats⟩, ty, ps, af, gd⟩ s rd (.put (.d r)) := does_call he.eq hv hAC hfl
theorem o_callO {d : Nat} {f : FuncId} {args : Array Operand} {ats : Array TypeId} {dvs : List DV} {rd : List Nat} {e n sz : Nat} {cs : List DV} [he : EntI P f] (hv : viewL s args.toList = some (dvs, rd)) (hAC : ACo P f dvs e n sz cs) (hfl : rd = [] ∨ DV.flatL cs = true) (gd : Option (Nat × Bool)) :
    Does P ⟨some d, .call ⟨.value (.func f), args, ats⟩, ty, ps, af, gd⟩ s rd (.newBlk ⟨e, cs⟩ (.lsl d 0 n sz)) := does_callO he.eq hv hAC hfl
theorem o_app {d nm n e sz bytes m : Nat} {zs : List Value} {blk : Blk} {cs : List DV} {rd : List Nat} [ht : SliI P t e sz bytes zs] (hx : s.ev x = .lsl nm 0 n sz) (hm : s.mem nm = some blk) (hty : blk.ty = e) (hl : blk.cells.length = n * sz)
    (hy : Src s y m cs rd) (hcl : cs.length = m * sz) (hpos : 0 < m) (hb : (n + m) * bytes ≤ 140737488355328) (hb2 : n + m ≤ 140737488355328) {new : List DV} (hnew : blk.cells ++ cs = new) (gd : Option (Nat × Bool)) : Does P ⟨some d, .call ⟨.builtin .append, #[x, y], #[t, t]⟩, ty, ps, af, gd⟩ s (nm :: rd) (.app nm ⟨e, new⟩ (.lsl d 0 (n + m) sz)) :=
  hnew ▸ does_app ht.eq hx hm hty hl hy hcl hpos hb hb2
theorem o_appV {d nm n e sz bytes m : Nat} {zs : List Value} {blk : Blk} {cs : List DV} {rd : List Nat} [ht : SliI P t e sz bytes zs] (hx : s.ev x = .lsl nm 0 n sz) (hm : s.mem nm = some blk) (hty : blk.ty = e) (hl : blk.cells.length = n * sz)
    (hy : Src s y m cs rd) (hcl : cs.length = m * sz) (hpos : 0 < m) (hb : (n + m) * bytes ≤ 140737488355328) (hb2 : n + m ≤ 140737488355328) {new : List DV} (hnew : blk.cells ++ cs = new) (gd : Option (Nat × Bool)) : Does P ⟨some d, .call ⟨.builtin .append, #[x, y], #[t, t]⟩, ty, ps, af, gd⟩ s (nm :: rd) (.appV nm (.d (.slice (n + m) new))) :=
  hnew ▸ does_appV ht.eq hx hm hty hl hy hcl hpos hb hb2
theorem o_appN {d e sz bytes m : Nat} {zs : List Value} {cs : List DV} {rd : List Nat} [ht : SliI P t e sz bytes zs] (hx : s.ev x = .d (.val (.slice none 0 0)))
    (hy : Src s y m cs rd) (hcl : cs.length = m * sz) (hpos : 0 < m) (hb : m * bytes ≤ 140737488355328) (hb2 : m ≤ 140737488355328) (gd : Option (Nat × Bool)) : Does P ⟨some d, .call ⟨.builtin .append, #[x, y], #[t, t]⟩, ty, ps, af, gd⟩ s rd (.newBlk ⟨e, cs⟩ (.lsl d 0 m sz)) := does_appN ht.eq hx hy hcl hpos hb hb2
theorem o_conv {a : Int} {k' : IntKind} {r : Int} {d : TypeDesc} [hs : UndI P t d] [ht : UndI P t' (.int k')] (hx : s.ev x = .d (.val (.int k a))) (hr : k'.wrap a = r) (gd : Option (Nat × Bool)) : Does P ⟨dst, .convert t t' x, ty, ps, af, gd⟩ s [] (.put (.d (.val (.int k' r)))) :=
  does_conv (by rw [hs.eq]; rfl) ht.eq hx hr
theorem o_pickT {cnd : Operand} {q : Bool} {r : AV} (hc : s.ev cnd = .d (.val (.bool q))) (hq : q = true) (hr : s.ev x = r) (gd : Option (Nat × Bool)) : Does P ⟨dst, .pick cnd x y, ty, ps, af, gd⟩ s [] (.put r) := does_pick hc (by rw [hq]; exact hr)
theorem o_pickF {cnd : Operand} {q : Bool} {r : AV} (hc : s.ev cnd = .d (.val (.bool q))) (hq : q = false) (hr : s.ev y = r) (gd : Option (Nat × Bool)) : Does P ⟨dst, .pick cnd x y, ty, ps, af, gd⟩ s [] (.put r) := does_pick hc (by rw [hq]; exact hr)
theorem o_extract {xs : List DV} {r : DV} {i : Nat} (hx : s.ev x = .d (.tuple xs)) (hr : xs[i]? = some r) (gd : Option (Nat × Bool)) : Does P ⟨dst, .extract x i, ty, ps, af, gd⟩ s [] (.put (.d r)) := does_extract hx hr
theorem o_not {q : Bool} (hx : s.ev x = .d (.val (.bool q))) (gd : Option (Nat × Bool)) : Does P ⟨dst, .unOp .not t x, ty, ps, af, gd⟩ s [] (.put (.d (.val (.bool (!q))))) := does_not hx
variable {a b : Int}
theorem o_neg (hx : s.ev x = .d (.val (.int k a))) {r : Int} (hr : k.wrap (-a) = r) (gd : Option (Nat × Bool)) : Does P ⟨dst, .unOp .neg t x, ty, ps, af, gd⟩ s [] (.put (.d (.val (.int k r)))) := does_neg hx hr
theorem o_add (hx : s.ev x = .d (.val (.int k a))) (hy : s.ev y = .d (.val (.int k b))) {r : Int} (hr : k.wrap (a + b) = r) (gd : Option (Nat × Bool)) : Does P ⟨dst, .binOp .add t x y t', ty, ps, af, gd⟩ s [] (.put (.d (.val (.int k r)))) := does_add hx hy hr
theorem o_sub (hx : s.ev x = .d (.val (.int k a))) (hy : s.ev y = .d (.val (.int k b))) {r : Int} (hr : k.wrap (a - b) = r) (gd : Option (Nat × Bool)) : Does P ⟨dst, .binOp .sub t x y t', ty, ps, af, gd⟩ s [] (.put (.d (.val (.int k r)))) := does_sub hx hy hr
theorem o_mul (hx : s.ev x = .d (.val (.int k a))) (hy : s.ev y = .d (.val (.int k b))) {r : Int} (hr : k.wrap (a * b) = r) (gd : Option (Nat × Bool)) : Does P ⟨dst, .binOp .mul t x y t', ty, ps, af, gd⟩ s [] (.put (.d (.val (.int k r)))) := does_mul hx hy hr
theorem o_quo (hx : s.ev x = .d (.val (.int k a))) (hy : s.ev y = .d (.val (.int k b))) (hb : b ≠ 0) {r : Int} (hr : k.wrap (a.tdiv b) = r) (gd : Option (Nat × Bool)) : Does P ⟨dst, .binOp .quo t x y t', ty, ps, af, gd⟩ s [] (.put (.d (.val (.int k r)))) := does_quo hx hy hb hr
theorem o_rem (hx : s.ev x = .d (.val (.int k a))) (hy : s.ev y = .d (.val (.int k b))) (hb : b ≠ 0) {r : Int} (hr : a.tmod b = r) (gd : Option (Nat × Bool)) : Does P ⟨dst, .binOp .rem t x y t', ty, ps, af, gd⟩ s [] (.put (.d (.val (.int k r)))) := does_rem hx hy hb hr
theorem o_lss (hx : s.ev x = .d (.val (.int k a))) (hy : s.ev y = .d (.val (.int k b))) (gd : Option (Nat × Bool)) : Does P ⟨dst, .binOp .lss t x y t', ty, ps, af, gd⟩ s [] (.put (.d (.val (.bool (decide (a < b)))))) := does_lss hx hy
theorem o_leq (hx : s.ev x = .d (.val (.int k a))) (hy : s.ev y = .d (.val (.int k b))) (gd : Option (Nat × Bool)) : Does P ⟨dst, .binOp .leq t x y t', ty, ps, af, gd⟩ s [] (.put (.d (.val (.bool (decide (a ≤ b)))))) := does_leq hx hy
theorem o_gtr (hx : s.ev x = .d (.val (.int k a))) (hy : s.ev y = .d (.val (.int k b))) (gd : Option (Nat × Bool)) : Does P ⟨dst, .binOp .gtr t x y t', ty, ps, af, gd⟩ s [] (.put (.d (.val (.bool (decide (b < a)))))) := does_gtr hx hy
theorem o_geq (hx : s.ev x = .d (.val (.int k a))) (hy : s.ev y = .d (.val (.int k b))) (gd : Option (Nat × Bool)) : Does P ⟨dst, .binOp .geq t x y t', ty, ps, af, gd⟩ s [] (.put (.d (.val (.bool (decide (b ≤ a)))))) := does_geq hx hy
theorem o_eql (hx : s.ev x = .d (.val (.int k a))) (hy : s.ev y = .d (.val (.int k b))) (gd : Option (Nat × Bool)) : Does P ⟨dst, .binOp .eql t x y t', ty, ps, af, gd⟩ s [] (.put (.d (.val (.bool (decide (a = b)))))) := does_eql hx hy
theorem o_neq (hx : s.ev x = .d (.val (.int k a))) (hy : s.ev y = .d (.val (.int k b))) (gd : Option (Nat × Bool)) : Does P ⟨dst, .binOp .neq t x y t', ty, ps, af, gd⟩ s [] (.put (.d (.val (.bool (decide (a ≠ b)))))) := does_neq hx hy
theorem o_max (hx : s.ev x = .d (.val (.int k a))) (hy : s.ev y = .d (.val (.int k b))) {ats : Array TypeId} (gd : Option (Nat × Bool)) : Does P ⟨dst, .call ⟨.builtin .max, #[x, y], ats⟩, ty, ps, af, gd⟩ s [] (.put (.d (.val (.int k (max a b))))) := does_max hx hy
theorem o_min (hx : s.ev x = .d (.val (.int k a))) (hy : s.ev y = .d (.val (.int k b))) {ats : Array TypeId} (gd : Option (Nat × Bool)) : Does P ⟨dst, .call ⟨.builtin .min, #[x, y], ats⟩, ty, ps, af, gd⟩ s [] (.put (.d (.val (.int k (min a b))))) := does_min hx hy

theorem o_quoE (hx : s.ev x = .d (.val (.int .i64 a))) (hy : s.ev y = .d (.val (.int .i64 b))) (ha : 0 ≤ a) (ha2 : a ≤ 9223372036854775807) (hb : 0 < b) (gd : Option (Nat × Bool)) : Does P ⟨dst, .binOp .quo t x y t', ty, ps, af, gd⟩ s [] (.put (.d (.val (.int .i64 (a / b))))) := by
  refine does_quo hx hy (by omega) ?_
  rw [Int.tdiv_eq_ediv_of_nonneg ha]
  have h1 := Int.ediv_nonneg ha (by omega : 0 ≤ b)
  have h2 := Int.ediv_le_self b ha
  exact IntWalk.i64_in _ (by omega)
theorem o_quoT (hx : s.ev x = .d (.val (.int .i64 a))) (hy : s.ev y = .d (.val (.int .i64 b))) (ha : -9223372036854775808 ≤ a) (ha2 : a ≤ 9223372036854775807) (hb : 0 < b) (gd : Option (Nat × Bool)) : Does P ⟨dst, .binOp .quo t x y t', ty, ps, af, gd⟩ s [] (.put (.d (.val (.int .i64 (a.tdiv b))))) := by
  refine does_quo hx hy (by omega) ?_
  have h2 := Int.natAbs_tdiv_le_natAbs a b
  by_cases h0 : 0 ≤ a
  · exact IntWalk.i64_in _ (by omega)
  · have : a.tdiv b ≤ 0 := by
      have : 0 ≤ (-a).tdiv b := Int.tdiv_nonneg (by omega) (by omega)
      rw [Int.neg_tdiv] at this; omega
    exact IntWalk.i64_in _ (by omega)
theorem o_remE (hx : s.ev x = .d (.val (.int k a))) (hy : s.ev y = .d (.val (.int k b))) (ha : 0 ≤ a) (hb : 0 < b) (gd : Option (Nat × Bool)) : Does P ⟨dst, .binOp .rem t x y t', ty, ps, af, gd⟩ s [] (.put (.d (.val (.int k (a % b))))) :=
  does_rem hx hy (by omega) (Int.tmod_eq_emod_of_nonneg ha)

theorem wr {n : Int} (h : -9223372036854775808 ≤ n ∧ n ≤ 9223372036854775807) : IntKind.i64.wrap n = n := IntWalk.i64_in n h
end

/-! Slices of elements of one cell, read at an index. -/
section
variable {P : Program} {s : AS} {ty : TypeId} {ps : String} {af : Array Edge} {dst : Option Tmp} {t t' : TypeId} {x y : Operand} {k : IntKind} {α : Type}
abbrev ivs (xs : List Int) : List DV := xs.map I
abbrev isl (xs : List Int) : DV := .slice xs.length (ivs xs)

theorem o_indexI {n len : Nat} {xs : List α} {f : α → DV} {j : Nat} [ht : IdxI P t false n 1] (hx : s.ev x = .d (.slice len (xs.map f))) (hy : s.ev y = .d (.val (.int k (j : Int)))) (hl : j < len) (hlen : len = xs.length) (gd : Option (Nat × Bool)) : Does P ⟨dst, .indexAddr t x y, ty, ps, af, gd⟩ s [] (.put (.d (.ref ((xs.map f).drop j)))) := by
  have := does_indexS (gd := gd) (dst := dst) (ty := ty) (ps := ps) (af := af) ht.eq hx hy (by omega) (by omega) (fun h => by
    have : (xs.map f).length = 0 := by rw [h]; rfl
    rw [List.length_map] at this; omega)
  simpa using this
theorem o_indexI' {n len : Nat} {xs : List α} {f : α → DV} {i : Int} [ht : IdxI P t false n 1] (hx : s.ev x = .d (.slice len (xs.map f))) (hy : s.ev y = .d (.val (.int k i))) (h0 : 0 ≤ i) (hl : i < len) (hlen : len = xs.length) (gd : Option (Nat × Bool)) : Does P ⟨dst, .indexAddr t x y, ty, ps, af, gd⟩ s [] (.put (.d (.ref ((xs.map f).drop i.toNat)))) := by
  have := does_indexS (gd := gd) (dst := dst) (ty := ty) (ps := ps) (af := af) ht.eq hx hy h0 hl (fun h => by
    have : (xs.map f).length = 0 := by rw [h]; rfl
    rw [List.length_map] at this; omega)
  simpa using this
def nth (xs : List Int) (k : Nat) : Int := xs.getD k 0
theorem get_map {xs : List α} {f : α → DV} {j : Nat} (d : α) (hj : j < xs.length) : ((xs.map f).drop j)[0]? = some (f (xs.getD j d)) := by
  rw [List.getElem?_drop, List.getD_eq_getElem?_getD]
  simp [hj]
theorem o_loadI {n : Nat} {xs : List Int} {j : Nat} [h : TyI P t false n] (hx : s.ev x = .d (.ref ((xs.map I).drop j))) (hj : j < xs.length) (gd : Option (Nat × Bool)) : Does P ⟨dst, .load t x, ty, ps, af, gd⟩ s [] (.put (.d (I (nth xs j)))) :=
  does_loadR hx (.one h.eq (get_map 0 hj))
theorem o_loadLI {nm off n : Nat} {b : TypeId} {xs : List Int} [h : TyI P t false n] (hx : s.ev x = .ptr nm off) (hm : s.mem nm = some ⟨b, xs.map I⟩) (hj : off < xs.length) (gd : Option (Nat × Bool)) : Does P ⟨dst, .load t x, ty, ps, af, gd⟩ s [nm] (.put (.d (I (nth xs off)))) :=
  does_load hx hm (.one h.eq (get_map 0 hj))
theorem drop_getD {xs : List Int} {k : Nat} (h : k < xs.length) : xs.drop k = nth xs k :: xs.drop (k + 1) := by
  unfold nth; rw [List.drop_eq_getElem_cons h, List.getD_eq_getElem?_getD, List.getElem?_eq_getElem h]; rfl
theorem take_getD {xs : List Int} {k : Nat} (h : k < xs.length) : xs.take (k + 1) = xs.take k ++ [nth xs k] := by
  unfold nth; rw [List.take_add_one, List.getD_eq_getElem?_getD, List.getElem?_eq_getElem h]; rfl
end

/-! A slice that a loop makes: nil, then one of its own. -/
def ownS (nm : Nat) : Nat → AV
  | 0 => .d (.val (.slice none 0 0))
  | k + 1 => .lsl nm 0 (k + 1) 1
def ownM (nm : Nat) (t : TypeId) (cs : List DV) : Nat → List (Nat × Blk)
  | 0 => []
  | _ + 1 => [(nm, ⟨t, cs⟩)]
def lst (f : Nat → Int) (n : Nat) : List Int := (List.range n).map f
theorem lst_length (f : Nat → Int) (n : Nat) : (lst f n).length = n := by simp [lst]
theorem lst_succ (f : Nat → Int) (n : Nat) : lst f (n + 1) = lst f n ++ [f n] := by simp [lst, List.range_succ]
theorem ivs_len (f : Nat → Int) (n : Nat) : (ivs (lst f n)).length = n := by simp [lst]
theorem ivs_snoc (f : Nat → Int) (n : Nat) {v : Int} (h : v = f n) : ivs (lst f n) ++ [I v] = ivs (lst f (n + 1)) := by rw [lst_succ, h]; simp [ivs]
theorem blk_snoc (t : TypeId) (f : Nat → Int) (n : Nat) {v : Int} (h : v = f n) : some (Blk.mk t (ivs (lst f n) ++ [I v])) = some ⟨t, ivs (lst f (n + 1))⟩ := by rw [ivs_snoc f n h]
theorem sl_whole (f : Nat → Int) (n : Nat) : DV.slice n (((ivs (lst f n)).drop 0).take (n * 1)) = isl (lst f n) := by
  have h := ivs_len f n
  rw [List.drop_zero, Nat.mul_one, List.take_of_length_le (by omega)]
  show _ = DV.slice (lst f n).length _
  rw [lst_length]
/-! States by their slots. -/
def frL : List (Nat × AV) → Nat → AV
  | [], _ => .d .any
  | (i, v) :: l, j => bif Nat.beq j i then v else frL l j
def memL : List (Nat × Blk) → Nat → Option Blk
  | [], _ => none
  | (i, v) :: l, j => bif Nat.beq j i then some v else memL l j
def leF (s : AS) : List (Nat × AV) → Prop
  | [] => True
  | (i, v) :: l => s.fr i = v ∧ leF s l
def leM (s : AS) : List (Nat × Blk) → Prop
  | [] => True
  | (i, v) :: l => s.mem i = some v ∧ leM s l
theorem le_of {s : AS} {l : List (Nat × AV)} {m : List (Nat × Blk)} (h1 : leF s l) (h2 : leM s m) : s.le ⟨frL l, memL m⟩ := by
  constructor
  · intro i
    show frL l i = _ ∨ frL l i = _
    induction l with
    | nil => exact .inl rfl
    | cons p l ih =>
      obtain ⟨j, v⟩ := p
      simp only [frL]
      cases hb : Nat.beq i j
      · exact ih h1.2
      · have := Nat.eq_of_beq_eq_true hb
        subst this
        exact .inr h1.1.symm
  · intro i blk
    show memL m i = _ → _
    induction m with
    | nil => intro h; cases h
    | cons p l ih =>
      obtain ⟨j, v⟩ := p
      simp only [memL]
      cases hb : Nat.beq i j
      · exact ih h2.2
      · have := Nat.eq_of_beq_eq_true hb
        subst this
        intro h
        rw [← h]; exact h2.1

section
variable {P : Program} {c : Fam} {Q : Exit → AS → Prop} {s : AS}
theorem awp_loopL {α : Type} {body : Code} (sl : α → List (Nat × AV)) (ml : α → List (Nat × Blk)) (J : α → Prop) (μ : α → Nat) (x0 : α) (hJ : J x0) (h0 : leF s (sl x0)) (h1 : leM s (ml x0))
    (round : ∀ x, J x → AWp P c body (ASeq (fun t => ∃ y, J y ∧ μ y < μ x ∧ leF t (sl y) ∧ leM t (ml y)) Q) ⟨frL (sl x), memL (ml x)⟩) : AWp P c (.loop body) Q s :=
  awp_loop (fun x => ⟨frL (sl x), memL (ml x)⟩) J μ x0 hJ (le_of h0 h1) fun x hx => awp_mono (round x hx) fun e t h => by
    cases e with
    | normal => obtain ⟨y, h1, h2, h3, h4⟩ := h; exact ⟨y, h1, h2, le_of h3 h4⟩
    | _ => exact h
theorem awp_cut {code : Code} (l : List (Nat × AV)) (m : List (Nat × Blk)) (h0 : leF s l) (h1 : leM s m) (h : AWp P c code Q ⟨frL l, memL m⟩) : AWp P c code Q s := awp_weaken (le_of h0 h1) h
end

section
variable {P : Program} {c : Fam} {Q : Exit → AS → Prop} {s : AS} {cnd : Operand} {x y : Code}
theorem awp_condT {q : Bool} (hc : s.ev cnd = .d (.val (.bool q))) (hq : q = true) (h : AWp P c x Q s) : AWp P c (.cond cnd x y) Q s := awp_cond hc (fun _ => h) (fun e => by rw [hq] at e; cases e)
theorem awp_condF {q : Bool} (hc : s.ev cnd = .d (.val (.bool q))) (hq : q = false) (h : AWp P c y Q s) : AWp P c (.cond cnd x y) Q s := awp_cond hc (fun e => by rw [hq] at e; cases e) (fun _ => h)
theorem awp_condD {p : Prop} {_ : Decidable p} (hc : s.ev cnd = .d (.val (.bool (decide p)))) (h1 : p → AWp P c x Q s) (h2 : ¬ p → AWp P c y Q s) : AWp P c (.cond cnd x y) Q s := awp_cond hc (fun e => h1 (of_decide_eq_true e)) (fun e => h2 (of_decide_eq_false e))
theorem awp_condN {p : Prop} {_ : Decidable p} (hc : s.ev cnd = .d (.val (.bool (!decide p)))) (h1 : ¬ p → AWp P c x Q s) (h2 : p → AWp P c y Q s) : AWp P c (.cond cnd x y) Q s := awp_cond hc (fun e => h1 (by simpa using e)) (fun e => h2 (by simpa using e))
theorem not_f {q : Bool} (h : q = true) : (!q) = false := by rw [h]; rfl
theorem not_t {q : Bool} (h : q = false) : (!q) = true := by rw [h]; rfl
theorem rt_int {a b : Int} (h : a = b) : I a = resDV [I b] := by rw [h]; rfl
theorem rt_bool {a b : Bool} (h : a = b) : B a = resDV [B b] := by rw [h]; rfl
end

/-! Where a piece of code ends. -/
section
variable {next : AS → Prop} {Q : Exit → AS → Prop} {t : AS} {id id' : Nat}
theorem q_seq (h : next t) : ASeq next Q .normal t := h
theorem q_seqE (h : Q (.exit id) t) : ASeq next Q (.exit id) t := h
theorem q_seqR (h : Q .ret t) : ASeq next Q .ret t := h
theorem q_blk (h : Q .normal t) : ABlock id Q .normal t := h
theorem q_blkE (h : Q .normal t) : ABlock id Q (.exit id) t := by simp only [ABlock, if_true]; exact h
theorem q_blkX (hne : Nat.beq id' id = false) (h : Q (.exit id') t) : ABlock id Q (.exit id') t := by
  have : id' ≠ id := fun e => by subst e; simp at hne
  simp only [ABlock, this, if_false]; exact h
theorem q_blkR (h : Q .ret t) : ABlock id Q .ret t := h
theorem q_retN {P : Program} {rs : List ResultVar} {r : DV} {ds : List DV} (h : ResL P t rs ds) (hr : r = resDV ds) : ARet P rs r .normal t := ⟨ds, h, hr⟩
theorem q_retR {P : Program} {rs : List ResultVar} {r : DV} {ds : List DV} (h : ResL P t rs ds) (hr : r = resDV ds) : ARet P rs r .ret t := ⟨ds, h, hr⟩
theorem res_nil {P : Program} {s : AS} : ResL P s [] [] := rfl
theorem res_tmp {P : Program} {s : AS} {t : Tmp} {l : List ResultVar} {d : DV} {ds : List DV} (h : s.ev (.tmp t) = .d d) (hl : ResL P s l ds) : ResL P s (.tmp t :: l) (d :: ds) := ⟨d, ds, rfl, .inl h, hl⟩
theorem res_own {P : Program} {s : AS} {t : Tmp} {l : List ResultVar} {nm off len sz : Nat} {blk : Blk} {ds : List DV} (h : s.ev (.tmp t) = .lsl nm off len sz) (hm : s.mem nm = some blk) (hl : ResL P s l ds) : ResL P s (.tmp t :: l) (.slice len ((blk.cells.drop off).take (len * sz)) :: ds) := ⟨_, ds, rfl, .inr ⟨nm, off, len, sz, blk, h, hm, rfl⟩, hl⟩
theorem res_cell1 {P : Program} {s : AS} {t : Tmp} {ty : TypeId} {l : List ResultVar} {nm off n : Nat} {blk : Blk} {d : DV} {ds : List DV} [ht : TyI P ty false n] (h : s.ev (.tmp t) = .ptr nm off) (hm : s.mem nm = some blk) (hx : (blk.cells.drop off)[0]? = some d) (hl : ResL P s l ds) : ResL P s (.cell t ty :: l) (d :: ds) :=
  ⟨d, ds, rfl, ⟨nm, off, blk, h, hm, .one ht.eq hx⟩, hl⟩
theorem res_cellA {P : Program} {s : AS} {t : Tmp} {ty : TypeId} {l : List ResultVar} {nm off n : Nat} {blk : Blk} {ds : List DV} [ht : TyI P ty true n] (h : s.ev (.tmp t) = .ptr nm off) (hm : s.mem nm = some blk) (hn : n ≤ (blk.cells.drop off).length) (hl : ResL P s l ds) : ResL P s (.cell t ty :: l) (.agg ((blk.cells.drop off).take n) :: ds) :=
  ⟨_, ds, rfl, ⟨nm, off, blk, h, hm, .agg ht.eq hn⟩, hl⟩
end

end Go.Proofs.Ytgjhikjnlcbmkaa

/- Calls of function values; contracts of the ordinary way as contracts on abstract values. Nothing of the program. -/
namespace Go.Proofs.Ytgjhikjnlcbmkaa
open Go.RowKit

section
variable {P : Program} {s : AS} {ty : TypeId} {ps : String} {af : Array Edge} {gd : Option (Nat × Bool)} {dst : Option Tmp}

theorem run_callVal {f : FuncId} (he : Enters P f) {y : Operand} {vs us : List Value} {args : Array Operand} {ats : Array TypeId} {a : Act} {w : World} (hy : a.eval y = .func (.func f) vs.toArray us.toArray) (hvs : vs = []) : (execOp a.eval ⟨dst, .call ⟨.value y, args, ats⟩, ty, ps, af, gd⟩).run P w = .ok (.enter f (args.map a.eval ++ us.toArray)) w := by
  have he' : (callFunc f (args.map a.eval ++ us.toArray)).run P w = .ok (.enter f (args.map a.eval ++ us.toArray)) w := he _ w
  subst hvs
  simp [execOp, resolve, Deferred.ofValue, hy, invoke, he']

inductive FnV (s : AS) (y : Operand) (f : FuncId) : List DV → Prop
  | val (h : s.ev y = .d (.val (.func (.func f) #[] #[]))) : FnV s y f []
  | fn {caps} (h : s.ev y = .d (.fn (.func f) [] caps)) : FnV s y f caps

theorem does_callV {f : FuncId} {y : Operand} {args : Array Operand} {ats : Array TypeId} {dvs caps : List DV} {rd : List Nat} {r : DV} (he : Enters P f) (hy : FnV s y f caps) (hv : viewL s args.toList = some (dvs, rd)) (hAC : AC P f (dvs ++ caps) r) (hfl : rd = [] ∨ r.flat = true) :
    Does P ⟨dst, .call ⟨.value y, args, ats⟩, ty, ps, af, gd⟩ s rd (.put (.d r)) :=
  ⟨fun c s' φ a w K Q hR hop hrd hd _ hK => by
    have hgy := hop y (by
      show y ∈ #[y] ++ args
      exact Array.mem_append.2 (.inl (by simp)))
    have hops : ∀ x ∈ args.toList, ge (s'.ev x) (s.ev x) := fun x hx => hop x (by
      show x ∈ #[y] ++ args
      exact Array.mem_append.2 (.inr (by simpa using hx)))
    obtain ⟨vs, us, hf, hvs, hus⟩ : ∃ vs us : List Value, a.eval y = .func (.func f) vs.toArray us.toArray ∧ vs = [] ∧ DV.repL (okOf c φ s') w caps us := by
      cases hy with
      | val h => exact ⟨[], [], ge_val hR hgy h, rfl, repL_nil.2 rfl⟩
      | fn h =>
        have h1 := ge_d hR hgy h
        rw [DV.rep] at h1
        obtain ⟨vs, us, e, h2, h3⟩ := h1
        exact ⟨vs, us, e, repL_nil.1 h2, h3⟩
    unfold Oper.wp
    rw [run_callVal he hf hvs]
    haveI : GlobI w := ⟨hR.below.glob⟩
    show Calls P f (args.map a.eval ++ us.toArray) w _
    have hargs : args.map a.eval ++ us.toArray = (args.toList.map a.eval ++ us).toArray := by
      apply Array.ext'
      simp
    rw [hargs]
    rcases Bool.eq_false_or_eq_true r.flat with hf | hf
    · refine (hAC (fun _ => True) w _ (repL_append (viewL_rep hR args.toList dvs rd hops hv hrd (fun _ _ _ => trivial) (fun _ _ => trivial)) (DV.repL_keeps (Keeps.wide fun _ _ _ => trivial) _ _ hus))).mono ?_
      rintro e w' ⟨v, rfl, hr, hb⟩
      have hR' := hR.below' hb
      exact hK _ _ _ (hR'.put hd (rep_flat r v hf hr))
    · have hrd0 : rd = [] := hfl.resolve_right (fun h => by rw [hf] at h; cases h)
      refine (hAC (fun b => okOf c φ s' b ∧ b < w.heap.size) w _ (repL_append (viewL_rep hR args.toList dvs rd hops hv hrd (fun b h1 h2 => ⟨h1, h2⟩) (fun h => absurd hrd0 h)) (DV.repL_keeps (Keeps.wide fun b h1 h2 => ⟨h1, h2⟩) _ _ hus))).mono ?_
      rintro e w' ⟨v, rfl, hr, hb⟩
      have hR' := hR.below' hb
      refine hK _ _ _ (hR'.put hd (DV.rep_keeps (Keeps.wide fun b hb1 _ => ?_) r v hr))
      rcases hb1 with hb1 | hb1
      · exact hb1.1
      · refine .inr ⟨.inl (Nat.le_trans hR.below.size hb1), fun nm hnm => ?_⟩
        have := hR.lt hnm
        omega⟩

theorem o_callF {f : FuncId} {y : Operand} {args : Array Operand} {ats : Array TypeId} {dvs caps : List DV} {rd : List Nat} {r : DV} (he : Enters P f) (hy : FnV s y f caps) (hv : viewL s args.toList = some (dvs, rd)) (hAC : AC P f (dvs ++ caps) r) (hfl : rd = [] ∨ r.flat = true) (gd : Option (Nat × Bool)) :
    Does P ⟨dst, .call ⟨.value y, args, ats⟩, ty, ps, af, gd⟩ s rd (.put (.d r)) := does_callV he hy hv hAC hfl
end

/-! Slices of slices. -/
section
variable {P : Program} {s : AS} {ty : TypeId} {ps : String} {af : Array Edge} {dst : Option Tmp} {t : TypeId} {x y z : Operand} {k k2 : IntKind}

theorem run_slice1 {e : TypeId} {sz : Nat} {i : TypeInfo} (hu : P.underlying t = some (.slice e)) (hi : P.info? e = some i) (hsz : i.size = sz) {A : Option Addr} {len cap : Nat} {h : Int} {k : IntKind} (h0 : 0 ≤ h) (h1 : h ≤ cap) (w : World) :
    (Instr.sliceAt t (.slice A len cap) none (some (.int k h)) none).run P w = .ok (.slice (if cap = 0 then A else A.map (·.add 0)) h.toNat cap) w := by
  obtain ⟨H, rfl⟩ := Int.eq_ofNat_of_zero_le h0
  have e2 : H ≤ cap := by omega
  simp [e2, Instr.sliceAt, Sem.run_bind, run_underlying hu w, Instr.slice, Instr.sliceBounds, Instr.sliceBound, asIntOf, sizeOf, typeInfo, hi]
theorem run_slice2 {e : TypeId} {sz : Nat} {i : TypeInfo} (hu : P.underlying t = some (.slice e)) (hi : P.info? e = some i) (hsz : i.size = sz) {A : Option Addr} {len cap : Nat} {l : Int} {k : IntKind} (h0 : 0 ≤ l) (h1 : l ≤ len) (w : World) :
    (Instr.sliceAt t (.slice A len cap) (some (.int k l)) none none).run P w = .ok (.slice (if cap = l.toNat then A else A.map (·.add (l.toNat * sz))) (len - l.toNat) (cap - l.toNat)) w := by
  obtain ⟨L, rfl⟩ := Int.eq_ofNat_of_zero_le h0
  have e2 : L ≤ len := by omega
  simp [e2, Instr.sliceAt, Sem.run_bind, run_underlying hu w, Instr.slice, Instr.sliceBounds, Instr.sliceBound, asIntOf, sizeOf, typeInfo, hi, hsz]

theorem idxOf_parts {n sz : Nat} (h : idxOf P t = some (false, n, sz)) : ∃ e i, P.underlying t = some (.slice e) ∧ P.info? e = some i ∧ i.size = sz := by
  unfold idxOf at h
  cases hu : P.underlying t with
  | none => simp [hu] at h
  | some d =>
    cases d <;> simp only [hu] at h <;> try (cases h; done)
    · rename_i e
      cases hi : P.info? e with
      | none => rw [hi] at h; cases h
      | some i =>
        rw [hi] at h
        simp only [Option.map_some, Option.some.injEq, Prod.mk.injEq, true_and] at h
        exact ⟨e, i, rfl, hi, h.2⟩
    · cases hi : P.info? _ with
      | none => rw [hi] at h; cases h
      | some i => rw [hi] at h; simp at h

theorem rep_part {ok : Nat → Prop} {w : World} {n cap lo hi sz : Nat} {cs : List DV} {A A' : Option Addr} (h : (DV.slice n cs).rep ok w (.slice A n cap)) (h1 : lo ≤ hi) (h2 : hi ≤ n) (hA : A' = if cap = lo then A else A.map (·.add (lo * sz))) : (DV.slice (hi - lo) ((cs.drop (lo * sz)).take ((hi - lo) * sz))).rep ok w (.slice A' (hi - lo) (cap - lo)) := by
  rw [DV.rep] at h ⊢
  obtain ⟨A1, cap1, e, h3, h4, h5⟩ := h
  cases e
  refine ⟨_, _, rfl, by omega, by omega, fun hne => ?_⟩
  have hlt : lo < hi := by
    rcases Nat.lt_or_ge lo hi with h | h
    · exact h
    · exfalso; apply hne; rw [show hi - lo = 0 by omega]; simp
  have hcs : cs ≠ [] := by rintro rfl; simp at hne
  obtain ⟨b, o, vs, rfl, hb, hl, hc, ho, hr⟩ := h5 hcs
  refine ⟨b, o + lo * sz, (vs.drop (lo * sz)).take ((hi - lo) * sz), ?_, hb, hl, fun j u hj => ?_, fun u hu => ho u (List.mem_of_mem_drop (List.mem_of_mem_take hu)), repL_take (repL_drop hr _) _⟩
  · rw [hA, if_neg (by omega)]; simp [addr_add]
  · have hj2 : (vs.drop (lo * sz))[j]? = some u := by
      rw [List.getElem?_take] at hj
      split at hj
      · exact hj
      · cases hj
    rw [List.getElem?_drop] at hj2
    rw [Nat.add_assoc]; exact hc _ _ hj2

theorem o_sliceH {n m sz : Nat} {cs : List DV} {h : Nat} [ht : IdxI P t false n sz] (hx : s.ev x = .d (.slice m cs)) (hy : s.ev y = .d (.val (.int k (h : Int)))) (hl : h ≤ m) (gd : Option (Nat × Bool)) : Does P ⟨dst, .slice t x none (some y) none, ty, ps, af, gd⟩ s [] (.put (.d (.slice h (cs.take (h * sz))))) :=
  does_pure fun c s' φ a w hR hop => by
    have h1 := ge_d hR (hop x (by simp [Op.operands])) hx
    have e2 := ge_val hR (hop y (by simp [Op.operands])) hy
    obtain ⟨e, i, hu, hi, hsz⟩ := idxOf_parts ht.eq
    obtain ⟨A, cap, e1, h3, h4⟩ : ∃ A cap, a.eval x = .slice A m cap ∧ m ≤ cap ∧ cap ≤ maxLen := by
      rw [DV.rep] at h1; obtain ⟨A, cap, e1, h3, h4, _⟩ := h1; exact ⟨A, cap, e1, h3, h4⟩
    rw [e1] at h1
    have hrun := run_slice1 (A := A) (len := m) (cap := cap) (k := k) hu hi hsz (show (0 : Int) ≤ (h : Int) by omega) (show (h : Int) ≤ cap by omega) w
    refine ⟨.slice (if cap = 0 then A else A.map (·.add 0)) h cap, ?_, ?_⟩
    · simp only [execOp, e1, e2, Option.map_none, Option.map_some, Sem.run_bind, hrun, Result.andThen_ok, Sem.run_pure, Int.toNat_natCast]
    · have := rep_part (sz := sz) (lo := 0) (hi := h) (A' := if cap = 0 then A else A.map (·.add (0 * sz))) h1 (by omega) hl rfl
      show DV.rep _ w _ _
      simpa using this
theorem o_sliceL {n m sz : Nat} {cs : List DV} {l : Nat} [ht : IdxI P t false n sz] (hx : s.ev x = .d (.slice m cs)) (hy : s.ev y = .d (.val (.int k (l : Int)))) (hl : l ≤ m) (gd : Option (Nat × Bool)) : Does P ⟨dst, .slice t x (some y) none none, ty, ps, af, gd⟩ s [] (.put (.d (.slice (m - l) ((cs.drop (l * sz)).take ((m - l) * sz))))) :=
  does_pure fun c s' φ a w hR hop => by
    have h1 := ge_d hR (hop x (by simp [Op.operands])) hx
    have e2 := ge_val hR (hop y (by simp [Op.operands])) hy
    obtain ⟨e, i, hu, hi, hsz⟩ := idxOf_parts ht.eq
    obtain ⟨A, cap, e1, h3, h4⟩ : ∃ A cap, a.eval x = .slice A m cap ∧ m ≤ cap ∧ cap ≤ maxLen := by
      rw [DV.rep] at h1; obtain ⟨A, cap, e1, h3, h4, _⟩ := h1; exact ⟨A, cap, e1, h3, h4⟩
    rw [e1] at h1
    have hrun := run_slice2 (A := A) (len := m) (cap := cap) (k := k) hu hi hsz (show (0 : Int) ≤ (l : Int) by omega) (show (l : Int) ≤ m by omega) w
    refine ⟨.slice (if cap = l then A else A.map (·.add (l * sz))) (m - l) (cap - l), ?_, rep_part h1 (by omega) (Nat.le_refl _) rfl⟩
    simp only [execOp, e1, e2, Option.map_none, Option.map_some, Sem.run_bind, hrun, Result.andThen_ok, Sem.run_pure, Int.toNat_natCast]
theorem o_sliceLH {n m sz : Nat} {cs : List DV} {l h : Nat} [ht : IdxI P t false n sz] (hx : s.ev x = .d (.slice m cs)) (hy : s.ev y = .d (.val (.int k (l : Int)))) (hz : s.ev z = .d (.val (.int k2 (h : Int)))) (hl : l ≤ h) (hh : h ≤ m) (gd : Option (Nat × Bool)) : Does P ⟨dst, .slice t x (some y) (some z) none, ty, ps, af, gd⟩ s [] (.put (.d (.slice (h - l) ((cs.drop (l * sz)).take ((h - l) * sz))))) :=
  does_pure fun c s' φ a w hR hop => by
    have h1 := ge_d hR (hop x (by simp [Op.operands])) hx
    have e2 := ge_val hR (hop y (by simp [Op.operands])) hy
    have e3 := ge_val hR (hop z (by simp [Op.operands])) hz
    obtain ⟨e, i, hu, hi, hsz⟩ := idxOf_parts ht.eq
    obtain ⟨A, cap, e1, h3, h4⟩ : ∃ A cap, a.eval x = .slice A m cap ∧ m ≤ cap ∧ cap ≤ maxLen := by
      rw [DV.rep] at h1; obtain ⟨A, cap, e1, h3, h4, _⟩ := h1; exact ⟨A, cap, e1, h3, h4⟩
    rw [e1] at h1
    have hrun := run_slice (A := A) (len := m) (cap := cap) (k1 := k) (k2 := k2) hu hi hsz (show (0 : Int) ≤ (l : Int) by omega) (show (l : Int) ≤ (h : Int) by omega) (show (h : Int) ≤ cap by omega) w
    refine ⟨.slice (if cap = l then A else A.map (·.add (l * sz))) (h - l) (cap - l), ?_, rep_part h1 hl hh rfl⟩
    simp only [execOp, e1, e2, e3, Option.map_none, Option.map_some, Sem.run_bind, hrun, Result.andThen_ok, Sem.run_pure, Int.toNat_natCast]

theorem o_sliceHI {n h : Nat} {xs : List Int} [ht : IdxI P t false n 1] (hx : s.ev x = .d (isl xs)) (hy : s.ev y = .d (.val (.int k (h : Int)))) (hl : h ≤ xs.length) (gd : Option (Nat × Bool)) : Does P ⟨dst, .slice t x none (some y) none, ty, ps, af, gd⟩ s [] (.put (.d (isl (xs.take h)))) := by
  have := o_sliceH (dst := dst) (ty := ty) (ps := ps) (af := af) (ht := ht) hx hy hl gd
  have e : DV.slice h ((ivs xs).take (h * 1)) = isl (xs.take h) := by
    show _ = DV.slice (xs.take h).length (ivs (xs.take h))
    rw [List.length_take, Nat.min_eq_left hl, Nat.mul_one, ivs, ivs, List.map_take]
  rw [e] at this; exact this
theorem o_sliceHI' {n : Nat} {h : Int} {xs : List Int} [ht : IdxI P t false n 1] (hx : s.ev x = .d (isl xs)) (hy : s.ev y = .d (.val (.int k h))) (h0 : 0 ≤ h) (hl : h ≤ xs.length) (gd : Option (Nat × Bool)) : Does P ⟨dst, .slice t x none (some y) none, ty, ps, af, gd⟩ s [] (.put (.d (isl (xs.take h.toNat)))) :=
  o_sliceHI hx (by rw [hy, Int.toNat_of_nonneg h0]) (by omega) gd
theorem o_sliceLHI {n l h : Nat} {xs : List Int} [ht : IdxI P t false n 1] (hx : s.ev x = .d (isl xs)) (hy : s.ev y = .d (.val (.int k (l : Int)))) (hz : s.ev z = .d (.val (.int k2 (h : Int)))) (hl : l ≤ h) (hh : h ≤ xs.length) (gd : Option (Nat × Bool)) : Does P ⟨dst, .slice t x (some y) (some z) none, ty, ps, af, gd⟩ s [] (.put (.d (isl ((xs.drop l).take (h - l))))) := by
  have := o_sliceLH (dst := dst) (ty := ty) (ps := ps) (af := af) (ht := ht) hx hy hz hl hh gd
  have e : DV.slice (h - l) (((ivs xs).drop (l * 1)).take ((h - l) * 1)) = isl ((xs.drop l).take (h - l)) := by
    show _ = DV.slice ((xs.drop l).take (h - l)).length (ivs ((xs.drop l).take (h - l)))
    rw [List.length_take, List.length_drop, Nat.min_eq_left (by omega), Nat.mul_one, Nat.mul_one, ivs, ivs, List.map_take, List.map_drop]
  rw [e] at this; exact this
theorem o_sliceLI {n l : Nat} {xs : List Int} [ht : IdxI P t false n 1] (hx : s.ev x = .d (isl xs)) (hy : s.ev y = .d (.val (.int k (l : Int)))) (hl : l ≤ xs.length) (gd : Option (Nat × Bool)) : Does P ⟨dst, .slice t x (some y) none none, ty, ps, af, gd⟩ s [] (.put (.d (isl (xs.drop l)))) := by
  have := o_sliceL (dst := dst) (ty := ty) (ps := ps) (af := af) (ht := ht) hx hy hl gd
  have e : DV.slice (xs.length - l) (((ivs xs).drop (l * 1)).take ((xs.length - l) * 1)) = isl (xs.drop l) := by
    show _ = DV.slice (xs.drop l).length (ivs (xs.drop l))
    rw [List.length_drop, Nat.mul_one, Nat.mul_one, List.take_of_length_le (by simp), ivs, ivs, List.map_drop]
  rw [e] at this; exact this
end

theorem AC.of {P : Program} {f : FuncId} {args : List DV} {r : DV} (vals : List Value) (v : Value) (hargs : ∀ ok w vs, DV.repL ok w args vs → vs = vals) (hr : ∀ ok w, r.rep ok w v)
    (h : ∀ w, Calls P f vals.toArray w fun e w' => e = .returned v ∧ Below w.heap.size w w') : AC P f args r := fun ok w vs hv _ => by
  rw [hargs ok w vs hv]
  exact (h w).mono fun e w' ⟨he, hb⟩ => ⟨v, he, hr _ _, hb⟩

end Go.Proofs.Ytgjhikjnlcbmkaa

/- Equality of aggregates of numbers, parts of aggregates, made slices, slices of arrays, function values. Nothing of the program. -/
namespace Go.Proofs.Ytgjhikjnlcbmkaa
open Go.RowKit

section
variable {P : Program}

def intsF (P : Program) (rec : TypeId → Option Nat) : List Field → Nat → Option Nat
  | [], off => some off
  | f :: fs, off =>
    match rec f.type, tyOf P f.type with
    | some n, some (g, m) => bif (!(f.name == "_")) && Nat.beq f.offset off && Nat.beq n m && (g || Nat.beq n 1) then intsF P rec fs (off + n) else none
    | _, _ => none
def intsOf (P : Program) : Nat → TypeId → Option Nat
  | 0, _ => none
  | d + 1, t =>
    match P.underlying t with
    | some (.int .i64) => some 1
    | some (.struct fs) => bif P.stoodInHeld t then none else intsF P (intsOf P d) fs.toList 0
    | some (.array n e) =>
      match intsOf P d e, tyOf P e with
      | some k, some (g, m) => bif Nat.beq k m && (g || Nat.beq k 1) then some (n * k) else none
      | _, _ => none
    | _ => none
class EqlI (P : Program) (t : TypeId) (n : outParam Nat) : Prop where
  eq : intsOf P 10 t = some n
  guard : P.eqGuardType P.depth t = false
  agg : tyOf P t = some (true, n)

def vI (g : Bool) (xs : List Int) : Value := bif g then .agg (xs.map (Value.int .i64)).toArray else .int .i64 (xs.headD 0)

theorem part_ints {t : TypeId} {g : Bool} {n : Nat} (h : tyOf P t = some (g, n)) {cs : List Int} {off : Nat} (hl : off + n ≤ cs.length) (hn : g = true ∨ n = 1) (w : World) :
    (part t (cs.map (Value.int .i64)).toArray off).run P w = .ok (vI g ((cs.drop off).take n)) w := by
  obtain ⟨h1, h2⟩ := tyOf_runs h w
  cases g with
  | true =>
    simp only [part, Sem.run_bind, h1, Result.andThen_ok, if_true, h2, Sem.run_pure, vI, cond_true]
    congr 3
    apply Array.ext'
    simp [Array.toList_extract, List.extract_eq_take_drop, List.map_take, List.map_drop]
  | false =>
    have hn1 : n = 1 := by simpa using hn
    subst hn1
    have hlt : off < cs.length := by omega
    simp only [part, Sem.run_bind, h1, Result.andThen_ok, Bool.false_eq_true, if_false, vI, cond_false]
    have : (cs.map (Value.int .i64)).toArray[off]? = some (.int .i64 cs[off]) := by simp [hlt]
    rw [this]
    have hd : (cs.drop off).take 1 = [cs[off]] := by
      rw [List.drop_eq_getElem_cons hlt]; rfl
    rw [hd]
    rfl

theorem dec_split {n off : Nat} {xs ys : List Int} : decide (xs.drop off = ys.drop off) = (decide ((xs.drop off).take n = (ys.drop off).take n) && decide (xs.drop (off + n) = ys.drop (off + n))) := by
  rw [← Bool.decide_and]
  apply decide_eq_decide.2
  constructor
  · intro h
    exact ⟨by rw [h], by rw [← List.drop_drop, ← List.drop_drop, h]⟩
  · intro ⟨h1, h2⟩
    rw [← List.drop_drop, ← List.drop_drop] at h2
    rw [← List.take_append_drop n (xs.drop off), h1, h2, List.take_append_drop]

theorem equalIn_ints : ∀ (d e : Nat) (t : TypeId) (n : Nat) (g : Bool), intsOf P d t = some n → tyOf P t = some (g, n) → (g = true ∨ n = 1) → ∀ (xs ys : List Int), xs.length = n → ys.length = n → ∀ w,
    (Op.equalIn (d + e) t (vI g xs) (vI g ys)).run P w = .ok (decide (xs = ys)) w
  | 0, _, _, _, _, h, _, _, _, _, _, _, _ => by simp [intsOf] at h
  | d + 1, e, t, n, g, h, ht, hg, xs, ys, hx, hy, w => by
    have hde : d + 1 + e = (d + e) + 1 := by omega
    rw [hde]
    have key := equalIn_ints d e
    unfold intsOf at h
    split at h
    · -- a number
      rename_i hu
      cases h
      have hgf : g = false := by
        unfold tyOf at ht
        rw [hu] at ht
        cases hi : P.info? t with
        | none => rw [hi] at ht; cases ht
        | some i => rw [hi] at ht; simp at ht; exact ht.1
      subst hgf
      obtain ⟨x, rfl⟩ := List.length_eq_one_iff.1 hx
      obtain ⟨y, rfl⟩ := List.length_eq_one_iff.1 hy
      show (Op.equalIn (d + e + 1) t (.int .i64 x) (.int .i64 y)).run P w = _
      rw [run_equalIn_int w (d + e) t .i64 .i64 x y hu]
      congr 1
      by_cases h : x = y <;> simp [h]
    · -- a struct
      rename_i fs hu
      have hgt : g = true := by
        unfold tyOf at ht
        rw [hu] at ht
        cases hi : P.info? t with
        | none => rw [hi] at ht; cases ht
        | some i => rw [hi] at ht; simp at ht; exact ht.1
      subst hgt
      cases hst : P.stoodInHeld t
      · rw [hst] at h
        simp only [cond_false] at h
        have hf : P.fieldsOf t = fs := by unfold Program.fieldsOf; rw [hu]
        show (Op.equalIn (d + e + 1) t (.agg _) (.agg _)).run P w = _
        rw [run_equalIn_struct w (d + e) t _ _ (by rw [hf]; exact hu) hst, hf]
        have fields : ∀ (fs : List Field) (off : Nat), intsF P (intsOf P d) fs off = some n → off ≤ n ∧ (Op.eqFields (d + e) (xs.map (Value.int .i64)).toArray (ys.map (Value.int .i64)).toArray fs).run P w = .ok (decide (xs.drop off = ys.drop off)) w := by
          intro fs
          induction fs with
          | nil =>
            intro off ho
            simp only [intsF, Option.some.injEq] at ho
            subst ho
            refine ⟨Nat.le_refl _, ?_⟩
            rw [List.drop_of_length_le (by omega), List.drop_of_length_le (by omega)]
            simp [Op.eqFields]
          | cons f fs ih =>
            intro off ho
            simp only [intsF] at ho
            split at ho
            · rename_i m g' m' h1 h2
              cases hb : ((!(f.name == "_")) && Nat.beq f.offset off && Nat.beq m m' && (g' || Nat.beq m 1))
              · rw [hb] at ho; cases ho
              · rw [hb] at ho
                simp only [Bool.and_eq_true, Bool.or_eq_true] at hb
                obtain ⟨⟨⟨b1, b2⟩, b3⟩, b4⟩ := hb
                have b2 := Nat.eq_of_beq_eq_true b2
                have b3 := Nat.eq_of_beq_eq_true b3
                subst b2; subst b3
                have b4 : g' = true ∨ m = 1 := b4.imp id Nat.eq_of_beq_eq_true
                obtain ⟨l1, ih⟩ := ih _ ho
                refine ⟨by omega, ?_⟩
                have hne : f.name ≠ "_" := by simpa using b1
                have hp1 := part_ints h2 (cs := xs) (off := f.offset) (by omega) b4 w
                have hp2 := part_ints h2 (cs := ys) (off := f.offset) (by omega) b4 w
                have hk := key f.type m g' h1 h2 b4 ((xs.drop f.offset).take m) ((ys.drop f.offset).take m) (by rw [List.length_take, List.length_drop]; omega) (by rw [List.length_take, List.length_drop]; omega) w
                simp only [Op.eqFields, hne, ne_eq, not_false_eq_true, if_true, Sem.run_bind, hp1, hp2, hk, Result.andThen_ok]
                rw [dec_split (n := m)]
                cases hd : decide ((xs.drop f.offset).take m = (ys.drop f.offset).take m)
                · simp
                · simp [ih]
            · cases ho
        exact (fields fs.toList 0 h).2
      · rw [hst] at h; cases h
    · -- an array
      rename_i c el hu
      have hgt : g = true := by
        unfold tyOf at ht
        rw [hu] at ht
        cases hi : P.info? t with
        | none => rw [hi] at ht; cases ht
        | some i => rw [hi] at ht; simp at ht; exact ht.1
      subst hgt
      split at h
      · rename_i k g' m h1 h2
        cases hb : (Nat.beq k m && (g' || Nat.beq k 1))
        · rw [hb] at h; cases h
        · rw [hb] at h
          simp only [cond_true, Option.some.injEq] at h
          simp only [Bool.and_eq_true, Bool.or_eq_true] at hb
          obtain ⟨b3, b4⟩ := hb
          have b3 := Nat.eq_of_beq_eq_true b3
          subst b3
          have b4 : g' = true ∨ k = 1 := b4.imp id Nat.eq_of_beq_eq_true
          have hi : ∃ i, P.info? el = some i ∧ i.size = k := by
            unfold tyOf at h2
            cases hu2 : P.underlying el with
            | none => rw [hu2] at h2; cases h2
            | some dd =>
              cases hi : P.info? el with
              | none => rw [hu2, hi] at h2; cases h2
              | some i => rw [hu2, hi] at h2; simp at h2; exact ⟨i, rfl, h2.2⟩
          obtain ⟨i, hi, hik⟩ := hi
          have hck : P.cellsOf el = k := by simp [Program.cellsOf, hi, hik]
          show (Op.equalIn (d + e + 1) t (.agg _) (.agg _)).run P w = _
          rw [run_equalIn_array w (d + e) _ _ hu hi, hck]
          have items : ∀ (r j : Nat), j + r = c → (Op.eqItems (d + e) el k (xs.map (Value.int .i64)).toArray (ys.map (Value.int .i64)).toArray (List.range' j r)).run P w = .ok (decide (xs.drop (j * k) = ys.drop (j * k))) w := by
            intro r
            induction r with
            | zero =>
              intro j hj
              have : j = c := by omega
              subst this
              rw [List.drop_of_length_le (by omega), List.drop_of_length_le (by omega)]
              simp [Op.eqItems]
            | succ r ih =>
              intro j hj
              have hjk : j * k + k ≤ n := by
                rw [← h, ← Nat.succ_mul]; exact Nat.mul_le_mul_right _ (by omega)
              have ih := ih (j + 1) (by omega)
              have hp1 := part_ints h2 (cs := xs) (off := j * k) (by omega) b4 w
              have hp2 := part_ints h2 (cs := ys) (off := j * k) (by omega) b4 w
              have hk := key el k g' h1 h2 b4 ((xs.drop (j * k)).take k) ((ys.drop (j * k)).take k) (by rw [List.length_take, List.length_drop]; omega) (by rw [List.length_take, List.length_drop]; omega) w
              rw [List.range'_succ]
              simp only [Op.eqItems, Sem.run_bind, hp1, hp2, hk, Result.andThen_ok]
              rw [dec_split (n := k)]
              have ej : (j + 1) * k = j * k + k := Nat.succ_mul j k
              rw [ej] at ih
              cases hd : decide ((xs.drop (j * k)).take k = (ys.drop (j * k)).take k)
              · simp
              · simp [ih]
          have := items c 0 (by omega)
          rw [List.range_eq_range']
          simpa using this
      · cases h
    · cases h

end

def intsV : List DV → Option (List Int)
  | [] => some []
  | .val (.int .i64 n) :: l => (intsV l).map (n :: ·)
  | _ => none
theorem intsV_eq : ∀ (l : List DV) (xs : List Int), intsV l = some xs → l = xs.map fun n => DV.val (.int .i64 n)
  | [], xs, h => by simp only [intsV, Option.some.injEq] at h; subst h; rfl
  | .val (.int .i64 n) :: l, xs, h => by
    simp only [intsV] at h
    cases hl : intsV l with
    | none => rw [hl] at h; cases h
    | some ys =>
      rw [hl] at h
      simp only [Option.map_some, Option.some.injEq] at h
      subst h
      rw [List.map_cons, ← intsV_eq l ys hl]
  | .any :: l, xs, h | .agg _ :: l, xs, h | .tuple _ :: l, xs, h | .slice _ _ :: l, xs, h | .ref _ :: l, xs, h | .fn _ _ _ :: l, xs, h => by simp [intsV] at h
  | .val v :: l, xs, h => by
    cases v <;> first | (simp [intsV] at h; done) | skip
    rename_i k n
    cases k <;> first | (simp [intsV] at h; done) | skip
    simp only [intsV] at h
    cases hl : intsV l with
    | none => rw [hl] at h; cases h
    | some ys =>
      rw [hl] at h
      simp only [Option.map_some, Option.some.injEq] at h
      subst h
      rw [List.map_cons, ← intsV_eq l ys hl]

theorem rep_aggI {ok : Nat → Prop} {w : World} {cs : List DV} {xs : List Int} {v : Value} (hc : intsV cs = some xs) (h : (DV.agg cs).rep ok w v) : v = .agg (xs.map (Value.int .i64)).toArray := by
  rw [DV.rep] at h
  obtain ⟨vs, rfl, _, h⟩ := h
  rw [intsV_eq cs xs hc] at h
  have : vs = xs.map (Value.int .i64) := repL_vals_eq (us := xs.map (Value.int .i64)) (by rw [List.map_map]; exact h)
  rw [this]

section
variable {P : Program} {s : AS} {ty : TypeId} {ps : String} {af : Array Edge} {dst : Option Tmp} {gd : Option (Nat × Bool)} {t t' e : TypeId} {x y z : Operand} {k k2 : IntKind}

theorem run_eqAgg {n : Nat} [h : EqlI P t n] {xs ys : List Int} (hx : xs.length = n) (hy : ys.length = n) (w : World) : (Op.equalIn 10000 t (.agg (xs.map (Value.int .i64)).toArray) (.agg (ys.map (Value.int .i64)).toArray)).run P w = .ok (decide (xs = ys)) w :=
  equalIn_ints 10 9990 t n true h.eq h.agg (.inl rfl) xs ys hx hy w

theorem o_eqlA {n : Nat} {cs ds : List DV} {xs ys : List Int} [h : EqlI P t n] (hx : s.ev x = .d (.agg cs)) (hy : s.ev y = .d (.agg ds)) (hc : intsV cs = some xs) (hd : intsV ds = some ys) (hlx : xs.length = n) (hly : ys.length = n) (gd : Option (Nat × Bool)) :
    Does P ⟨dst, .binOp .eql t x y t', ty, ps, af, gd⟩ s [] (.put (.d (.val (.bool (decide (xs = ys)))))) :=
  does_pure fun c s' φ a w hR hop => by
    have h1 := rep_aggI hc (ge_d hR (hop x (by simp [Op.operands])) hx)
    have h2 := rep_aggI hd (ge_d hR (hop y (by simp [Op.operands])) hy)
    refine ⟨.bool (decide (xs = ys)), ?_, (rep_val (ok := okOf c φ s') (w := w)).2 rfl⟩
    have e1 := run_eqGuard_agg (P := P) w .eql t x y (xs.map (Value.int .i64)).toArray (ys.map (Value.int .i64)).toArray h.guard
    have e2 := run_eql_struct (P := P) w t (xs.map (Value.int .i64)).toArray (ys.map (Value.int .i64)).toArray
    simp only [execOp, h1, h2, Sem.run_bind, e1, e2, run_eqAgg hlx hly w, Sem.run_pure, Result.andThen_ok]
theorem o_neqA {n : Nat} {cs ds : List DV} {xs ys : List Int} [h : EqlI P t n] (hx : s.ev x = .d (.agg cs)) (hy : s.ev y = .d (.agg ds)) (hc : intsV cs = some xs) (hd : intsV ds = some ys) (hlx : xs.length = n) (hly : ys.length = n) (gd : Option (Nat × Bool)) :
    Does P ⟨dst, .binOp .neq t x y t', ty, ps, af, gd⟩ s [] (.put (.d (.val (.bool (decide (xs ≠ ys)))))) :=
  does_pure fun c s' φ a w hR hop => by
    have h1 := rep_aggI hc (ge_d hR (hop x (by simp [Op.operands])) hx)
    have h2 := rep_aggI hd (ge_d hR (hop y (by simp [Op.operands])) hy)
    refine ⟨.bool (decide (xs ≠ ys)), ?_, (rep_val (ok := okOf c φ s') (w := w)).2 rfl⟩
    have e1 := run_eqGuard_agg (P := P) w .neq t x y (xs.map (Value.int .i64)).toArray (ys.map (Value.int .i64)).toArray h.guard
    have e2 := run_neq_struct (P := P) w t (xs.map (Value.int .i64)).toArray (ys.map (Value.int .i64)).toArray
    simp only [execOp, h1, h2, Sem.run_bind, e1, e2, run_eqAgg hlx hly w, Sem.run_pure, Result.andThen_ok, decide_not]

theorem o_neqB {p q : Bool} [ht : UndI P t .bool] (hx : s.ev x = .d (.val (.bool p))) (hy : s.ev y = .d (.val (.bool q))) (gd : Option (Nat × Bool)) : Does P ⟨dst, .binOp .neq t x y t', ty, ps, af, gd⟩ s [] (.put (.d (.val (.bool (!(p == q)))))) :=
  does_bin hx hy fun w => by
    have e1 : (eqGuard .neq t x y (.bool p) (.bool q)).run P w = .ok () w := by unfold eqGuard; rfl
    rw [Sem.run_bind, e1, Result.andThen_ok]
    simp [binOp, run_equal_bool w t p q ht.eq]
theorem o_eqlB {p q : Bool} [ht : UndI P t .bool] (hx : s.ev x = .d (.val (.bool p))) (hy : s.ev y = .d (.val (.bool q))) (gd : Option (Nat × Bool)) : Does P ⟨dst, .binOp .eql t x y t', ty, ps, af, gd⟩ s [] (.put (.d (.val (.bool (p == q))))) :=
  does_bin hx hy fun w => by
    have e1 : (eqGuard .eql t x y (.bool p) (.bool q)).run P w = .ok () w := by unfold eqGuard; rfl
    rw [Sem.run_bind, e1, Result.andThen_ok]
    simp [binOp, run_equal_bool w t p q ht.eq]

theorem part_run {ok : Nat → Prop} {w : World} {g : Bool} {n : Nat} (h : tyOf P t = some (g, n)) {cs : List DV} {vs : List Value} (ho : Ones vs) (hr : DV.repL ok w cs vs) {off : Nat} {r : DV} (hl : LoadOf P t (cs.drop off) r) :
    ∃ v, (part t vs.toArray off).run P w = .ok v w ∧ r.rep ok w v := by
  cases hl with
  | @agg n h hn =>
    obtain ⟨h1, h2⟩ := tyOf_runs h w
    refine ⟨.agg ((vs.drop off).take n).toArray, ?_, ?_⟩
    · simp only [part, Sem.run_bind, h1, Result.andThen_ok, if_true, h2, Sem.run_pure]
      congr 3
      apply Array.ext'
      simp [Array.toList_extract, List.extract_eq_take_drop]
    · rw [DV.rep]
      exact ⟨_, rfl, fun u hu => ho u (List.mem_of_mem_drop (List.mem_of_mem_take hu)), repL_take (repL_drop hr off) n⟩
  | @one n x h hx =>
    obtain ⟨h1, _⟩ := tyOf_runs h w
    obtain ⟨u, hu, hru⟩ := repL_get (repL_drop hr off) hx
    refine ⟨u, ?_, hru⟩
    rw [List.getElem?_drop] at hu
    have : vs.toArray[off]? = some u := by simpa using hu
    simp only [part, Sem.run_bind, h1, Result.andThen_ok, Bool.false_eq_true, if_false, this, Sem.run_pure]

def elOf (P : Program) (t : TypeId) : Option (Nat × Bool × Nat) :=
  match P.underlying t with
  | some (.array n e) => (tyOf P e).map fun p => (n, p)
  | _ => none
class ElI (P : Program) (t : TypeId) (n : outParam Nat) (g : outParam Bool) (sz : outParam Nat) : Prop where
  eq : elOf P t = some (n, g, sz)
theorem elOf_parts {n : Nat} {g : Bool} {sz : Nat} (h : elOf P t = some (n, g, sz)) : ∃ e, P.underlying t = some (.array n e) ∧ tyOf P e = some (g, sz) := by
  unfold elOf at h
  split at h
  · rename_i m e hu
    cases ht : tyOf P e with
    | none => rw [ht] at h; cases h
    | some p =>
      rw [ht] at h
      simp only [Option.map_some, Option.some.injEq, Prod.mk.injEq] at h
      obtain ⟨rfl, rfl⟩ := h
      exact ⟨e, hu, ht⟩
  · cases h
theorem does_index {n : Nat} {g : Bool} {sz : Nat} {i : Int} {cs : List DV} {r : DV} (he : elOf P t = some (n, g, sz)) (hx : s.ev x = .d (.agg cs)) (hy : s.ev y = .d (.val (.int k i))) (h0 : 0 ≤ i) (h1 : i < n)
    (hl : (g = true ∧ i.toNat * sz + sz ≤ cs.length ∧ r = .agg ((cs.drop (i.toNat * sz)).take sz)) ∨ (g = false ∧ cs[i.toNat * sz]? = some r)) : Does P ⟨dst, .index t x y, ty, ps, af, gd⟩ s [] (.put (.d r)) :=
  does_pure fun c s' φ a w hR hop => by
    obtain ⟨el, hu, hte⟩ := elOf_parts he
    have e1 := ge_d hR (hop x (by simp [Op.operands])) hx
    have e2 := ge_val hR (hop y (by simp [Op.operands])) hy
    rw [DV.rep] at e1
    obtain ⟨vs, e1, ho, hr⟩ := e1
    have hlo : LoadOf P el (cs.drop (i.toNat * sz)) r := by
      rcases hl with ⟨rfl, h2, rfl⟩ | ⟨rfl, h2⟩
      · exact .agg hte (by rw [List.length_drop]; omega)
      · exact .one hte (by simpa using h2)
    obtain ⟨v, hv, hrv⟩ := part_run hte ho hr hlo
    refine ⟨v, ?_, hrv⟩
    have hsz := (tyOf_runs hte w).2
    have hcond : (0 ≤ i ∧ i < (n : Int)) := ⟨h0, h1⟩
    simp only [execOp, e1, e2, Instr.index, asIntOf, Sem.run_bind, Sem.run_pure, Result.andThen_ok, run_underlying hu w, hcond, and_self, if_true, hsz, hv]
theorem o_index {n : Nat} {sz : Nat} {i : Int} {cs : List DV} {r : DV} [he : ElI P t n false sz] (hx : s.ev x = .d (.agg cs)) (hy : s.ev y = .d (.val (.int k i))) (h0 : 0 ≤ i) (h1 : i < n) (hr : cs[i.toNat * sz]? = some r) (gd : Option (Nat × Bool)) :
    Does P ⟨dst, .index t x y, ty, ps, af, gd⟩ s [] (.put (.d r)) := does_index he.eq hx hy h0 h1 (.inr ⟨rfl, hr⟩)
theorem o_indexG {n : Nat} {sz : Nat} {i : Int} {cs rs : List DV} [he : ElI P t n true sz] (hx : s.ev x = .d (.agg cs)) (hy : s.ev y = .d (.val (.int k i))) (h0 : 0 ≤ i) (h1 : i < n) (hl : i.toNat * sz + sz ≤ cs.length) (hr : (cs.drop (i.toNat * sz)).take sz = rs) (gd : Option (Nat × Bool)) :
    Does P ⟨dst, .index t x y, ty, ps, af, gd⟩ s [] (.put (.d (.agg rs))) := does_index he.eq hx hy h0 h1 (.inl ⟨rfl, hl, by rw [hr]⟩)
def fdOf (P : Program) (t : TypeId) (f : Nat) : Option (Nat × Bool × Nat) :=
  match P.underlying t with
  | some (.struct fs) => (fs[f]?).bind fun q => (tyOf P q.type).map fun p => (q.offset, p)
  | _ => none
class FdI (P : Program) (t : TypeId) (f : Nat) (off : outParam Nat) (g : outParam Bool) (sz : outParam Nat) : Prop where
  eq : fdOf P t f = some (off, g, sz)
theorem fdOf_parts {f off : Nat} {g : Bool} {sz : Nat} (h : fdOf P t f = some (off, g, sz)) : ∃ fs q, P.underlying t = some (.struct fs) ∧ fs[f]? = some q ∧ q.offset = off ∧ tyOf P q.type = some (g, sz) := by
  unfold fdOf at h
  split at h
  · rename_i fs hu
    cases hq : fs[f]? with
    | none => rw [hq] at h; cases h
    | some q =>
      rw [hq] at h
      simp only [Option.bind_some] at h
      cases ht : tyOf P q.type with
      | none => rw [ht] at h; cases h
      | some p =>
        rw [ht] at h
        simp only [Option.map_some, Option.some.injEq, Prod.mk.injEq] at h
        obtain ⟨h1, h2⟩ := h
        exact ⟨fs, q, hu, hq, h1, by rw [ht, h2]⟩
  · cases h
theorem does_fieldV {f off : Nat} {g : Bool} {sz : Nat} {cs : List DV} {r : DV} (he : fdOf P t f = some (off, g, sz)) (hx : s.ev x = .d (.agg cs)) (hl : (g = true ∧ off + sz ≤ cs.length ∧ r = .agg ((cs.drop off).take sz)) ∨ (g = false ∧ cs[off]? = some r)) : Does P ⟨dst, .field t x f, ty, ps, af, gd⟩ s [] (.put (.d r)) :=
  does_pure fun c s' φ a w hR hop => by
    obtain ⟨fs, q, hu, hq, rfl, hte⟩ := fdOf_parts he
    have e1 := ge_d hR (hop x (by simp [Op.operands])) hx
    rw [DV.rep] at e1
    obtain ⟨vs, e1, ho, hr⟩ := e1
    have hlo : LoadOf P q.type (cs.drop q.offset) r := by
      rcases hl with ⟨rfl, h2, rfl⟩ | ⟨rfl, h2⟩
      · exact .agg hte (by rw [List.length_drop]; omega)
      · exact .one hte (by simpa using h2)
    obtain ⟨v, hv, hrv⟩ := part_run hte ho hr hlo
    refine ⟨v, ?_, hrv⟩
    simp only [execOp, e1, Instr.field, asAgg, Sem.run_bind, Sem.run_pure, Result.andThen_ok, run_underlying hu w, hq, hv]
theorem o_fieldV {f off sz : Nat} {cs : List DV} {r : DV} [he : FdI P t f off false sz] (hx : s.ev x = .d (.agg cs)) (hr : cs[off]? = some r) (gd : Option (Nat × Bool)) : Does P ⟨dst, .field t x f, ty, ps, af, gd⟩ s [] (.put (.d r)) := does_fieldV he.eq hx (.inr ⟨rfl, hr⟩)
theorem o_fieldVA {f off sz : Nat} {cs rs : List DV} [he : FdI P t f off true sz] (hx : s.ev x = .d (.agg cs)) (hl : off + sz ≤ cs.length) (hr : (cs.drop off).take sz = rs) (gd : Option (Nat × Bool)) : Does P ⟨dst, .field t x f, ty, ps, af, gd⟩ s [] (.put (.d (.agg rs))) := does_fieldV he.eq hx (.inl ⟨rfl, hl, by rw [hr]⟩)

theorem o_nilS {A : Option Addr} {l c : Nat} [ht : UndI P t (.slice e)] (hx : s.ev x = .d (.val (.slice A l c))) (hy : s.ev y = .d (.val (.slice none 0 0))) (gd : Option (Nat × Bool)) : Does P ⟨dst, .binOp .eql t x y t', ty, ps, af, gd⟩ s [] (.put (.d (.val (.bool A.isNone)))) :=
  does_bin hx hy fun w => by
    have e1 : (eqGuard .eql t x y (.slice A l c) (.slice none 0 0)).run P w = .ok () w := by unfold eqGuard; rfl
    rw [Sem.run_bind, e1, Result.andThen_ok]
    simp [binOp, run_equal_slice_nil w t e A l c ht.eq]
theorem o_nilL {nm off l sz : Nat} [ht : UndI P t (.slice e)] (hx : s.ev x = .lsl nm off l sz) (hy : s.ev y = .d (.val (.slice none 0 0))) (gd : Option (Nat × Bool)) : Does P ⟨dst, .binOp .eql t x y t', ty, ps, af, gd⟩ s [] (.put (.d (.val (.bool false)))) :=
  does_pure fun c s' φ a w hR hop => by
    obtain ⟨cap, h1, _⟩ := ge_lsl hR (hop x (by simp [Op.operands])) hx
    have h2 := ge_val hR (hop y (by simp [Op.operands])) hy
    refine ⟨.bool false, ?_, (rep_val (ok := okOf c φ s') (w := w)).2 rfl⟩
    have e1 : (eqGuard .eql t x y (.slice (some ⟨(φ nm).1, off, none⟩) l cap) (.slice none 0 0)).run P w = .ok () w := by unfold eqGuard; rfl
    have e2 : (binOp .eql t (.slice (some ⟨(φ nm).1, off, none⟩) l cap) (.slice none 0 0)).run P w = .ok (.bool false) w := by simp [binOp, run_equal_slice_nil w t e _ l cap ht.eq]
    simp only [execOp, h1, h2, Sem.run_bind, e1, e2, Sem.run_pure, Result.andThen_ok]

theorem idxOf_arr {n sz : Nat} (h : idxOf P t = some (true, n, sz)) : ∃ e i, P.underlying t = some (.array n e) ∧ P.info? e = some i ∧ i.size = sz := by
  unfold idxOf at h
  cases hu : P.underlying t with
  | none => simp [hu] at h
  | some d =>
    cases d <;> simp only [hu] at h <;> try (cases h; done)
    · cases hi : P.info? _ with
      | none => rw [hi] at h; cases h
      | some i => rw [hi] at h; simp at h
    · rename_i m e
      cases hi : P.info? e with
      | none => rw [hi] at h; cases h
      | some i =>
        rw [hi] at h
        simp only [Option.map_some, Option.some.injEq, Prod.mk.injEq, true_and] at h
        obtain ⟨rfl, h2⟩ := h
        exact ⟨e, i, rfl, hi, h2⟩
theorem o_sliceArr {n sz : Nat} {cs : List DV} [ht : IdxI P t true n sz] (hx : s.ev x = .d (.ref cs)) (hn : n ≤ 1000000) {rs : List DV} (hr : cs.take (n * sz) = rs) (gd : Option (Nat × Bool)) : Does P ⟨dst, .slice t x none none none, ty, ps, af, gd⟩ s [] (.put (.d (.slice n rs))) :=
  does_pure fun c s' φ a w hR hop => by
    obtain ⟨el, i, hu, hi, hsz⟩ := idxOf_arr ht.eq
    have e1 := ge_d hR (hop x (by simp [Op.operands])) hx
    rw [DV.rep] at e1
    obtain ⟨b, o, vs, e1, hok, hlt, hc, ho, hrep⟩ := e1
    subst hr
    refine ⟨.slice (some ⟨b, o, none⟩) n n, ?_, ?_⟩
    · by_cases hn0 : n = 0
      · subst hn0
        simp [execOp, e1, Instr.sliceAt, Sem.run_bind, run_underlying hu w, Instr.sureAddr, Instr.sliceBounds, Instr.sliceBound, sizeOf, typeInfo, hi]
      · simp [execOp, e1, Instr.sliceAt, Sem.run_bind, run_underlying hu w, Instr.sureAddr, Instr.sliceBounds, Instr.sliceBound, sizeOf, typeInfo, hi, hn0, Addr.add]
    · show DV.rep _ w (.slice n (cs.take (n * sz))) _
      rw [DV.rep]
      refine ⟨_, _, rfl, Nat.le_refl _, by unfold maxLen; omega, fun _ => ?_⟩
      refine ⟨b, o, vs.take (n * sz), rfl, hok, hlt, fun j u hj => hc j u ?_, fun u hu => ho u (List.mem_of_mem_take hu), repL_take hrep _⟩
      rw [List.getElem?_take] at hj
      split at hj
      · exact hj
      · cases hj

def viewD (s : AS) : List Operand → Option (List DV)
  | [] => some []
  | x :: l =>
    match s.ev x with
    | .d v => (viewD s l).map (v :: ·)
    | _ => none
theorem viewD_rep {c : Ctx} {s' : AS} {φ : Nat → Nat × Nat} {a : Act} {w : World} (hR : R c s' φ a w) : ∀ (l : List Operand) (r : List DV), (∀ x ∈ l, ge (s'.ev x) (s.ev x)) → viewD s l = some r → DV.repL (okOf c φ s') w r (l.map a.eval)
  | [], r, _, h => by simp only [viewD, Option.some.injEq] at h; subst h; exact repL_nil.2 rfl
  | x :: l, r, hg, h => by
    simp only [viewD] at h
    split at h
    · rename_i v hv
      cases hl : viewD s l with
      | none => rw [hl] at h; cases h
      | some rs =>
        rw [hl] at h
        simp only [Option.map_some, Option.some.injEq] at h
        subst h
        exact repL_cons'.2 ⟨ge_d hR (hg x List.mem_cons_self) hv, viewD_rep hR l rs (fun y hy => hg y (List.mem_cons_of_mem _ hy)) hl⟩
    · cases h
theorem o_makeFunc {f : Fn} {caps : Array Operand} {dvs : List DV} (hv : viewD s caps.toList = some dvs) (gd : Option (Nat × Bool)) : Does P ⟨dst, .makeFunc f #[] caps, ty, ps, af, gd⟩ s [] (.put (.d (.fn f [] dvs))) :=
  does_pure fun c s' φ a w hR hop => by
    have h1 := viewD_rep hR caps.toList dvs (fun x hx => hop x (by simp [Op.operands]; exact Array.mem_toList_iff.1 hx)) hv
    refine ⟨.func f #[] (caps.map a.eval), ?_, ?_⟩
    · simp only [execOp, Instr.makeFunc, Sem.run_bind, Sem.run_pure, Result.andThen_ok, Array.map_empty]
    · show DV.rep _ w _ _
      rw [DV.rep]
      exact ⟨[], caps.toList.map a.eval, by congr 1; apply Array.ext'; simp, repL_nil.2 rfl, h1⟩

theorem o_makeSl {d e sz bytes n : Nat} {zs : List Value} [ht : SliI P t e sz bytes zs] (hx : s.ev x = .d (.val (.int k n))) (hb : n * bytes ≤ 140737488355328) (hb2 : n ≤ 140737488355328) {r : List DV} (hr : (zeros zs (n * sz)).map DV.val = r) (gd : Option (Nat × Bool)) :
    Does P ⟨some d, .makeSlice t x x, ty, ps, af, gd⟩ s [] (.newBlk ⟨e, r⟩ (.lsl d 0 n sz)) :=
  ⟨fun c s' φ a w K Q hR hop _ hd _ hK => by
    obtain ⟨i, z, hu, hi, hz, hsz, hby, hzc, hzs, hpos, ho⟩ := sliOf_parts ht.eq
    have e1 := ge_val hR (hop x (by simp [Op.operands])) hx
    subst hr
    have hzl : zs.length = sz := by rw [← hzc]; simpa using hzs
    have hz0 : (madeCells z.cells (n * sz)).toList = zeros zs (n * sz) := by
      unfold madeCells zeros
      rw [Array.toList_map, Array.toList_range]
      refine List.map_congr_left fun j _ => ?_
      have hlt : j % z.cells.size < z.cells.size := Nat.mod_lt _ (by omega)
      rw [← hzc]
      simp [hlt]
    have hzo : Ones (zeros zs (n * sz)) := by
      intro u hu2
      unfold zeros at hu2
      obtain ⟨j, _, rfl⟩ := List.mem_map.1 hu2
      have hlt : j % zs.length < zs.length := Nat.mod_lt _ (by omega)
      rw [List.getD_eq_getElem?_getD, List.getElem?_eq_getElem hlt]
      exact ho _ (List.getElem_mem hlt)
    have hmx : n ≤ maxLen := by unfold maxLen; omega
    have hby2 : ((i.bytes : Int) * (n : Int)) ≤ 281474976710656 := by
      have : i.bytes * n ≤ 281474976710656 := by rw [hby, Nat.mul_comm]; omega
      have h3 : ((i.bytes * n : Nat) : Int) ≤ 281474976710656 := by omega
      rwa [Int.natCast_mul] at h3
    have hrun := run_make (P := P) w t e i z hu hi hz k k (n : Int) (n : Int) (by omega) (Int.le_refl _) hby2 (by omega)
    unfold Oper.wp
    have hrun2 : (execOp a.eval ⟨some d, .makeSlice t x x, ty, ps, af, gd⟩).run P w = .ok (.value (.slice (some ⟨w.heap.size, 0, none⟩) n n)) (w.alloc (.cells (madeCells z.cells (n * sz)) e)) := by
      rw [Int.toNat_natCast, hsz] at hrun
      simp only [execOp, e1, Sem.run_bind, hrun, Result.andThen_ok, Sem.run_pure]
    rw [hrun2]
    have hszc : (madeCells z.cells (n * sz)).size = n * sz := size_madeCells _ _
    refine hK (upd φ d (w.heap.size, (madeCells z.cells (n * sz)).size)) _ _ (hR.newBlk ((Below.refl _ _).alloc (Nat.le_refl _) _) (hd d rfl) (Nat.le_refl _) (blk_new (by rw [hz0]; exact hzo) (by rw [hz0]; exact repL_vals _) e) ?_)
    refine ⟨n, ?_, Nat.le_refl _, hmx, ?_⟩
    · rw [upd_same]
    · rw [upd_same]; simp only; omega⟩

end

end Go.Proofs.Ytgjhikjnlcbmkaa
