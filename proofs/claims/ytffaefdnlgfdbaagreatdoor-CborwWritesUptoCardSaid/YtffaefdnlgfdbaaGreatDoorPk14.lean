/- The texts RefOc, put together. -/
import Derived.Test.YtffaefdnlgfdbaaGreatDoorPk10
import Derived.StillTailTactics
/- Rows of bytes as strings: conversions. -/
namespace Go.Proofs.YtffaefdnlgfdbaaGreatDoor
open Go.RowKit Go.Shelf

/-- A row of bytes known whole, as a string. -/
theorem run_convB {P : Program} {src dst e : TypeId} (hs : P.underlying src = some (.slice e)) (he : P.underlying e = some (.int .u8)) (hd : P.underlying dst = some .string) (l : List UInt8) (W : World) (b n : Nat) (hn : n = l.length) (h : Blk W b (byteVals l).toArray e) :
    (convert src dst (.slice (some ⟨b, 0, none⟩) n n)).run P W = .ok (.string ⟨l.toArray⟩) W := by
  subst hn
  refine run_convert_bytes_back _ src dst e ⟨b, 0, none⟩ l.length l hs he hd (fun j hj => ?_)
  have ea : (⟨b, 0, none⟩ : Addr).add j = ⟨b, j, none⟩ := by
    unfold Addr.add
    split
    · rename_i h0
      rw [h0]
    · simp
  rw [ea, h.cell j]
  simp [byteVals, hj]
theorem run_convD {P : Program} {src dst e : TypeId} (hs : P.underlying src = some (.slice e)) (he : P.underlying e = some (.int .u8)) (hd : P.underlying dst = some .string) (W : World) (d : Nat) (h : d < 10) :
    (convert src dst (.slice (some ⟨W.heap.size, 0, none⟩) 1 1)).run P (W.alloc (.cells #[.int .u8 (48 + (d : Int))] e)) = .ok (.string ⟨#[UInt8.ofNat (48 + d)]⟩) (W.alloc (.cells #[.int .u8 (48 + (d : Int))] e)) := by
  have hv : (byteVals [UInt8.ofNat (48 + d)]).toArray = #[.int .u8 (48 + (d : Int))] := by
    have : ((UInt8.ofNat (48 + d)).toNat : Int) = 48 + (d : Int) := by
      rw [UInt8.toNat_ofNat']
      omega
    simp [byteVals]
    omega
  refine run_convB hs he hd [UInt8.ofNat (48 + d)] _ _ 1 rfl ?_
  rw [hv]
  exact Blk.new W _ _
end Go.Proofs.YtffaefdnlgfdbaaGreatDoor
