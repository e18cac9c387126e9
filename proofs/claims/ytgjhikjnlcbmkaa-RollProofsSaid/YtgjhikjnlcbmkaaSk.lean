/- Walk: Solve. -/
import Derived.Test.YtgjhikjnlcbmkaaSg
import Derived.Test.YtgjhikjnlcbmkaaSh
import Derived.Test.YtgjhikjnlcbmkaaSi
import Derived.Test.YtgjhikjnlcbmkaaSj
set_option linter.unusedVariables false
set_option linter.unusedSimpArgs false
namespace Go.Proofs.Ytgjhikjnlcbmkaa
open Go.RowKit
set_option maxRecDepth 20000
set_option maxHeartbeats 16000000

theorem elm_A (c : Nat) (hc : c < 4) (M : Mq) (lk : LkT) (hlk : LkA lk) (hp : M c c ≠ 0) (hd : ∀ j, j < c → M c j = 0) {K : Nat} (hM : RatM K M) (hK : K ≤ 1200) (w0 : World) (ok : Nat → Prop) (Q : Exit → AS → Prop) :
    AWp Try.prog (ctx0 w0 ok Try.f38.ntmps) (elmOf (Try.f38.body.getD .skip)) (ASeq (fun t => leF t (cS lk c) ∧ leM t (mM lk (subR M c fun i => M i c / M c c))) Q) ⟨frL (cS lk c), memL (mM lk M)⟩ := by
  have hcs : c = 0 ∨ c = 1 ∨ c = 2 ∨ c = 3 := by omega
  rcases hcs with rfl | rfl | rfl | rfl
  · exact elm0_A M lk hlk hp hd hM hK w0 ok Q
  · exact elm1_A M lk hlk hp hd hM hK w0 ok Q
  · exact elm2_A M lk hlk hp hd hM hK w0 ok Q
  · exact elm3_A M lk hlk hp hd hM hK w0 ok Q
theorem col_A (m : Mq) (lk : LkT) (hlk : LkA lk) (c : Nat) (hc : c < 4) (hd : Dg m c) {K : Nat} (hM : RatM K m) (hK : K ≤ 1200) (w0 : World) (ok : Nat → Prop) (Q : Exit → AS → Prop)
    (hret : pivQ m c c (4 - c) = 4 → ∀ t, ARet Try.prog Try.f38.results.toList (.tuple [nilV, B false]) .ret t → Q .ret t) :
    AWp Try.prog (ctx0 w0 ok Try.f38.ntmps) (colOf (Try.f38.body.getD .skip)) (ASeq (fun t => pivQ m c c (4 - c) < 4 ∧ ∃ lk', LkA lk' ∧ leF t (cS lk' c) ∧ leM t (mM lk' (stpQ m c))) Q) ⟨frL (cS lk c), memL (mM lk m)⟩ := by
  obtain ⟨p1, p2, p3, p4⟩ := pivQ_rng m c (4 - c) c
  show AWp _ _ (Code.block _ _) _ _
  (repeat' ((fail_if_success (with_reducible show AWp _ _ (.seq (.block _ _) _) _ _)); (first | (with_reducible first | intro hg | refine mv (by constructor) ?_) | ((with_reducible first | refine zR ?_ ?_ | refine zW mixed ?_ ?_); exact kr) | ((with_reducible apply zK); exact rfl; exact tf) | ((with_reducible apply zCD); exact rfl) | ((with_reducible apply zCN); exact rfl) | ((with_reducible apply zC); exact rfl) | ((with_reducible refine zX ?_ ?_); exact rfl) | ((with_reducible refine zE (And.intro ?_ ?_)); exact kr) | (with_reducible refine zE ?_) | ((with_reducible apply zP); exact dp) | ((with_reducible apply zN); exact dn) | ((with_reducible apply zA); exact da) | ((with_reducible apply zS); exact ds) | ((with_reducible apply zY); exact rfl; exact rfl; exact tf) | ((with_reducible apply zG); exact rfl; exact rfl; exact tf) | ((with_reducible apply zU); exact rfl; exact rfl) | ((with_reducible apply zD); exact rfl; exact rfl) | ((with_reducible apply zB); exact rfl; exact rfl))))
  refine awp_cut ((8, .d (I c)) :: cS lk c) (mM lk m) (And.intro rfl (And.intro rfl (And.intro rfl (And.intro rfl (And.intro rfl (And.intro rfl (And.intro rfl (And.intro rfl trivial)))))))) (And.intro rfl (And.intro rfl (And.intro rfl (And.intro rfl (And.intro rfl trivial))))) ?_
  refine awp_seqK _ (piv_A m lk hlk c hc w0 ok _) fun t ⟨t1, t2⟩ => awp_cut ((8, .d (I (pivQ m c c (4 - c) : Nat))) :: cS lk c) (mM lk m) t1 t2 ?_
  by_cases hp : pivQ m c c (4 - c) = 4
  · rw [hp]
    (repeat' (first | (with_reducible first | intro hg | refine mv (by constructor) ?_) | ((with_reducible first | refine zR ?_ ?_ | refine zW mixed ?_ ?_); exact kr) | ((with_reducible apply zK); exact rfl; exact tf) | ((with_reducible apply zCD); exact rfl) | ((with_reducible apply zCN); exact rfl) | ((with_reducible apply zC); exact rfl) | ((with_reducible refine zX ?_ ?_); exact rfl) | ((with_reducible refine zE (And.intro ?_ ?_)); exact kr) | (with_reducible refine zE ?_) | ((with_reducible apply zP); exact dp) | ((with_reducible apply zN); exact dn) | ((with_reducible apply zA); exact da) | ((with_reducible apply zS); exact ds) | ((with_reducible apply zY); exact rfl; exact rfl; exact tf) | ((with_reducible apply zG); exact rfl; exact rfl; exact tf) | ((with_reducible apply zU); exact rfl; exact rfl) | ((with_reducible apply zD); exact rfl; exact rfl) | ((with_reducible apply zB); exact rfl; exact rfl)))
    refine hret hp _ ?_
    ((with_reducible first | apply q_retR | apply q_retN); exact rl)
    rfl
  have hlt : pivQ m c c (4 - c) < 4 := by omega
  have hq := p4 (by omega)
  have hst : stpQ m c = subR (swapR m c (pivQ m c c (4 - c))) c fun i => swapR m c (pivQ m c c (4 - c)) i c / swapR m c (pivQ m c c (4 - c)) c c := rfl
  rw [hst]
  clear hst hret p2 p3 p4
  generalize pivQ m c c (4 - c) = a at *
  have hne : swapR m c a c c ≠ 0 := by
    have : swapR m c a c c = m a c := by unfold swapR; rw [if_pos rfl]
    rw [this]; exact hq
  have hz : ∀ j, j < c → swapR m c a c j = 0 := fun j hj => by
    have : swapR m c a c j = m a j := by unfold swapR; rw [if_pos rfl]
    rw [this]; exact (hd j hj).2 a hlt (by omega)
  (repeat' ((fail_if_success (with_reducible show AWp _ _ (.seq (.region 15 _ _) _) _ _)); (first | (with_reducible first | intro hg | refine mv (by constructor) ?_) | ((with_reducible first | refine zR ?_ ?_ | refine zW mixed ?_ ?_); exact kr) | ((with_reducible apply zK); exact rfl; exact tf) | ((with_reducible apply zCD); exact rfl) | ((with_reducible apply zCN); exact rfl) | ((with_reducible apply zC); exact rfl) | ((with_reducible refine zX ?_ ?_); exact rfl) | ((with_reducible refine zE (And.intro ?_ ?_)); exact kr) | (with_reducible refine zE ?_) | ((with_reducible apply zP); exact dp) | ((with_reducible apply zN); exact dn) | ((with_reducible apply zA); exact da) | ((with_reducible apply zS); exact ds) | ((with_reducible apply zY); exact rfl; exact rfl; exact tf) | ((with_reducible apply zG); exact rfl; exact rfl; exact tf) | ((with_reducible apply zU); exact rfl; exact rfl) | ((with_reducible apply zD); exact rfl; exact rfl) | ((with_reducible apply zB); exact rfl; exact rfl))))
  refine awp_cut ((8, .d (I (a : Nat))) :: cS lk c) (mM lk m) (And.intro rfl (And.intro rfl (And.intro rfl (And.intro rfl (And.intro rfl (And.intro rfl (And.intro rfl (And.intro rfl trivial)))))))) (And.intro rfl (And.intro rfl (And.intro rfl (And.intro rfl (And.intro rfl trivial))))) ?_
  refine swp_A m lk c a p1 hlt w0 ok _ _ (awp_mono (elm_A c hc (swapR m c a) (swL lk c a) (hlk.swap c a) hne hz (swapR_S hc hlt hM) hK w0 ok (ABlock 3 (ASeq (fun t => a < 4 ∧ ∃ lk', LkA lk' ∧ leF t (cS lk' c) ∧ leM t (mM lk' (subR (swapR m c a) c fun i => swapR m c a i c / swapR m c a c c))) Q))) fun e t h => ?_)
  cases e with
  | normal => exact ⟨hlt, swL lk c a, hlk.swap c a, h.1, h.2⟩
  | _ => exact h

end Go.Proofs.Ytgjhikjnlcbmkaa
