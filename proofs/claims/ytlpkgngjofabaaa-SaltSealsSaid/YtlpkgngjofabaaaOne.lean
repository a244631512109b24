/- Plain law: the seal of two empty texts is the document's number. -/
import Derived.Test.YtlpkgngjofabaaaSeal
namespace Go.Proofs.Ytlpkgngjofabaaa.PSaltSeals
open Go.RowKit Go.Proofs.YtlpkgngjofabaaaW.PrintWords Go.Proofs.YtlpkgngjofabaaaW.PrintLast Go.Proofs.YtlpkgngjofabaaaW.PrintMore
set_option maxRecDepth 100000 in
theorem one_hex : hexL (digest ⟨#[0]⟩) 32 = [54, 101, 51, 52, 48, 98, 57, 99, 102, 102, 98, 51, 55, 97, 57, 56, 57, 99, 97, 53, 52, 52, 101, 54, 98, 98, 55, 56, 48, 97, 50, 99, 55, 56, 57, 48, 49, 100, 51, 102, 98, 51, 51, 55, 51, 56, 55, 54, 56, 53, 49, 49, 97, 51, 48, 54, 49, 55, 97, 102, 97, 48, 49, 100] := by decide +kernel
theorem one_seal : hexS (digest (⟨#[]⟩ ++ ⟨#[0]⟩ ++ ⟨#[]⟩)) = ⟨#[54, 101, 51, 52, 48, 98, 57, 99, 102, 102, 98, 51, 55, 97, 57, 56, 57, 99, 97, 53, 52, 52, 101, 54, 98, 98, 55, 56, 48, 97, 50, 99, 55, 56, 57, 48, 49, 100, 51, 102, 98, 51, 51, 55, 51, 56, 55, 54, 56, 53, 49, 49, 97, 51, 48, 54, 49, 55, 97, 102, 97, 48, 49, 100]⟩ := by
  have e : (⟨#[]⟩ ++ ⟨#[0]⟩ ++ ⟨#[]⟩ : ByteArray) = ⟨#[0]⟩ := by decide +kernel
  rw [e, hexS, digest_size, one_hex]
  decide +kernel
end Go.Proofs.Ytlpkgngjofabaaa.PSaltSeals
