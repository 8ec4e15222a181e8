/-
  More types: none in this seat (the generator prints this text).
  No condition.
-/
import Derived.Test.YtpbabdnbbpgejaaTypesB
namespace Go.Proofs.Ytpbabdnbbpgejaa
end Go.Proofs.Ytpbabdnbbpgejaa
