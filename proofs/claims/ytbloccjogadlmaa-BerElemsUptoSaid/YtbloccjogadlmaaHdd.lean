/- Plain law of the headers: how a header's reading at any depth follows of the one at depth 2, and which errors there are. -/
import Derived.Test.YtbloccjogadlmaaMa
import Derived.Test.YtbloccjogadlmaaRHd
namespace Go.Proofs.Ytbloccjogadlmaa.W
set_option linter.unusedVariables false
set_option linter.unusedSimpArgs false

theorem hdr_code {s : ByteArray} {p e c q : Int} (h : hdr s p e 2 = .error (c, q)) : c = 26 ∨ c = 21 ∨ c = 22 ∨ c = 23 := by
  rw [hdr2] at h
  repeat' split at h
  all_goals first | (cases h; done) | (injection h with h; injection h with h1 h2; omega)

/-- Any depth up to 64: the same but for the error of bytes that are missing. -/
theorem hdr_as (s : ByteArray) (p e d : Int) (hd : d ≤ 64) :
    hdr s p e d = (match hdr s p e 2 with | .ok h => .ok h | .error (c, q) => .error (if c = 26 then miss d else c, q)) := by
  rw [hdr2]
  unfold hdr
  rw [if_neg (by omega)]
  repeat' split
  all_goals first | rfl | simp_all | (exfalso; omega)
end Go.Proofs.Ytbloccjogadlmaa.W
