/-
  What is no more needed is forgotten.
  No conditions.
-/
import Derived.Test.YtbmfinobafcmiaaDoorSx8
namespace Go.Sx
open Go
theorem Cw.forget {P : Program} {w0 : World} {c : Code} {f : Fr} {L : Heap} {K : Kont} (M : Heap) (hM : ∀ p, p ∈ M → p ∈ L) (hn : (keys M).Nodup) (hnew : ∀ p, p ∈ L → p.1 ∉ keys M → w0.heap.size ≤ p.1)
    (h : Cw P w0 c f M K) : Cw P w0 c f L K := fun w hw => h w (hw.drop hM hn fun p hp hlt hk => by have := hnew p hp hk; omega)
end Go.Sx
