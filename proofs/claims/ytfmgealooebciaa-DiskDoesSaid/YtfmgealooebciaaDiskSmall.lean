/- Small facts for the laws over the disk. -/
import Derived.Test.YtfmgealooebciaaDiskAwake
namespace Go.Proofs.Ytfmgealooebciaa.PAll
open Go.RowKit Go.Proofs.YtfmgealooebciaaW.PrintWords Go.Proofs.YtfmgealooebciaaW.PrintLast Go.Proofs.YtfmgealooebciaaW.PrintMore
theorem len16 {l : List Int} (h : l.length = 16) : ∃ x0 x1 x2 x3 x4 x5 x6 x7 x8 x9 x10 x11 x12 x13 x14 x15 : Int, l = [x0, x1, x2, x3, x4, x5, x6, x7, x8, x9, x10, x11, x12, x13, x14, x15] := by
  rcases l with _ | ⟨x0, _ | ⟨x1, _ | ⟨x2, _ | ⟨x3, _ | ⟨x4, _ | ⟨x5, _ | ⟨x6, _ | ⟨x7, _ | ⟨x8, _ | ⟨x9, _ | ⟨x10, _ | ⟨x11, _ | ⟨x12, _ | ⟨x13, _ | ⟨x14, _ | ⟨x15, _ | ⟨x16, l⟩⟩⟩⟩⟩⟩⟩⟩⟩⟩⟩⟩⟩⟩⟩⟩⟩ <;> simp at h
  exact ⟨x0, x1, x2, x3, x4, x5, x6, x7, x8, x9, x10, x11, x12, x13, x14, x15, rfl⟩
theorem own5 {base : Nat} {ok : Nat → Prop} {v : Value} {l : List Int} {w : World} (h : Kd.R (Kd.int .u8) 5 w base ok v l) (hl : 0 < l.length) : ∃ g cap cur, v = .slice (some ⟨g, 0, none⟩) l.length cap ∧ base ≤ g ∧ w.heap[g]? = some (.cells cur 5 (0, 0)) ∧ l.length ≤ cur.size := by
  have ho := Kd.own_of_R h
  rcases ho.2 with ⟨_, h0⟩ | ⟨g, cap, cur, he, hg, hh, hc, _, hs, _⟩
  · omega
  · exact ⟨g, cap, cur, he, hg, hh, by rw [hs]; omega⟩
theorem DiskAt.far5 {base D gS cW g : Nat} {A : Option Addr} {S : List (List Int)} {W : List (Int × List Int)} {w : World} {cur : Array Value} (h : DiskAt base D gS A cW S W w) (hg : w.heap[g]? = some (.cells cur 5 (0, 0))) (i : Nat) (u : Value) : DiskAt base D gS A cW S W (w.setCell ⟨g, i, none⟩ u) := by
  obtain ⟨hD, hb, hbS, ⟨cS, hcS, h1, h2⟩, hO⟩ := h
  refine ⟨blk_far hD (p := ⟨g, i, none⟩) (blk_ne hD hg (by decide)) u, hb, hbS, ⟨cS, blk_far hcS (p := ⟨g, i, none⟩) (blk_ne hcS hg (by decide)) u, h1, h2⟩, hO.1, ?_⟩
  rcases hO.2 with h0 | ⟨g', cap, cur', he, hg', hh, hc⟩
  · exact .inl h0
  · exact .inr ⟨g', cap, cur', he, hg', blk_far hh (p := ⟨g, i, none⟩) (blk_ne hh hg (by decide)) u, hc⟩
theorem Touch.blk5 {base D gS cW g : Nat} {A : Option Addr} {S : List (List Int)} {W : List (Int × List Int)} {w w' : World} {cur : Array Value} (h : Touch D gS A w w') (hd : DiskAt base D gS A cW S W w) (hg : w.heap[g]? = some (.cells cur 5 (0, 0))) : w'.heap[g]? = some (.cells cur 5 (0, 0)) := by
  obtain ⟨hD, hb, hbS, ⟨cS, hcS, h1, h2⟩, hO⟩ := hd
  refine (h.block g (blk_lt hg) (blk_ne hg hD (by decide)) (blk_ne hg hcS (by decide)) (fun a ha => ?_)).trans hg
  rcases hO.2 with ⟨he, _⟩ | ⟨g', cap, cur', he, hg', hh, hc⟩
  · injection he with hA
    rw [hA] at ha; cases ha
  · injection he with hA
    rw [hA] at ha
    obtain rfl := Option.some.inj ha
    exact blk_ne hg hh (by decide)
theorem blk5_cell {w : World} {g : Nat} {cur : Array Value} (h : w.heap[g]? = some (.cells cur 5 (0, 0))) {j : Nat} (hj : j < cur.size) : ∃ u, w.cell? ⟨g, j, none⟩ = some u := ⟨cur[j], (blk_cell h j).trans (Array.getElem?_eq_getElem hj)⟩
end Go.Proofs.Ytfmgealooebciaa.PAll
