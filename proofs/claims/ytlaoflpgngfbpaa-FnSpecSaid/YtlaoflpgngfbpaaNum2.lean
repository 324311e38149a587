/- Contracts: a number as text, the reference's way. -/
import Derived.Test.YtlaoflpgngfbpaaNum
namespace Go.Proofs.Ytlaoflpgngfbpaa
open Go.RowKit
set_option linter.unusedVariables false
theorem run_byte_string_at {P : Program} {src dst e : TypeId} (hs : P.underlying src = some (.slice e)) (he : P.underlying e = some (.int .u8)) (hd : P.underlying dst = some .string) (W : World) (b : Nat) (n : Int) (h : W.cell? ⟨b, 0, none⟩ = some (.int .u8 n)) :
    (convert src dst (.slice (some ⟨b, 0, none⟩) 1 1)).run P W = .ok (.string ⟨#[UInt8.ofNat n.toNat]⟩) W := by
  rw [run_convert_bytes_string _ src dst e _ _ _ hs he hd, run_bytesToString _ _ _ _ [n] (by simp [go_sem, h])]
  rfl
end Go.Proofs.Ytlaoflpgngfbpaa
