import Derived.Test.YtcejdokeaoklaaaDoorPlain
import Derived.Test.YtcejdokeaoklaaaDoorPImpx15
/-! PLAIN LAW: ImportsOrders. -/
namespace Go.Proofs.YtcejdokeaoklaaaDoor.PImp
open Go.RowKit Go.Proofs.YtcejdokeaoklaaaDoorW.PrintWords Go.Proofs.YtcejdokeaoklaaaDoorW.PrintLast Go.Proofs.YtcejdokeaoklaaaDoorW.PrintMore
open Go.Proofs.YtcejdokeaoklaaaDoor.Imp
theorem ImportsOrders_pure (l0 : List ByteArray) (l1 : List S46) (p : ByteArray) (hl0 : l0.length < 1048577) (hs : ∀ s ∈ l0, s.size < 1048577) (hl1 : l1.length < 1048577) (ho : ∀ o ∈ l1, OutLe o 1048577) (hp : p.size < 1048577) : ∃ k, scholiastlaw13_ImportsOrders.f k l0 l1 p = some true := by
  refine Ev.rounds (g := fun k => scholiastlaw13_ImportsOrders.f k l0 l1 p) ?_
  unfold scholiastlaw13_ImportsOrders.f
  refine Ev.bind (wide_ev l0 l1 hl0 hl1 (fun o h => (ho o h).len)) ?_
  by_cases hw : 1024 < l0.length + l1.length + total l1
  · exact ev_pos (decide_eq_true hw) (Ev.now _)
  · refine ev_neg (by simpa using hw) ?_
    have hS := small_of hs ho hw
    refine ev_let (Order_f hS) (Ev.bind (order_ev hS) (ev_pos rfl ?_))
    refine Ev.bind (same_ev _ _ (ordA_len hS)) (ev_pos (by simp) ?_)
    refine Ev.bind (same_ev _ _ (ordB_len hS)) ?_
    refine Ev.step (fun k => scholiastlaw13_ImportsOrders.j0.eq_2 _ _ _ _ k) (ev_neg (by simp) ?_)
    refine ev_let (Needs_f hS hp) (Ev.bind (needs_ev hS p) (ev_pos rfl ?_))
    have := Ev.bind (f := fun (_ : Nat) (t : Bool) => some t) (same_ev (needsF l0 l1 p) (needsF l0 l1 p) (needsF_len hS p)) (Ev.now _)
    simpa using this
end Go.Proofs.YtcejdokeaoklaaaDoor.PImp
