/- The law redlinelaw16.ValidLeaf: the contract. -/
import Derived.Test.YtnkmcbhpmbjkpaaLeafA
import Derived.Test.YtnkmcbhpmbjkpaaLeafB
import Derived.Test.YtnkmcbhpmbjkpaaLeafC
namespace Go.Proofs.Ytnkmcbhpmbjkpaa
open Go Go.RowKit

theorem leafLaw_any (s : SN) (n : NT) (kind : ByteArray) (w : World) (hs : s.Ok w) (hsm : s.Small) (hn : n.Ok w) (hb : n.er.bulk ≤ 1048576) (hkl : kind.size ≤ 1048576) :
    Calls Try.prog 4 #[s.val, n.val, .string kind] w fun e w' => e = .returned (.bool true) ∧ Grew w w' := by
  by_cases hfill : (s.er.ruleOf kind).fill = 0
  · exact leafLaw_B s n kind w hfill hs hsm hn hb hkl
  · rcases findT_cases s.er (elemT kind) with h0 | h0
    · exact leafLaw_A s n kind w hfill h0 hs hsm hn hb hkl
    · exact leafLaw_C s n kind w hfill h0 hs hsm hn hb hkl
end Go.Proofs.Ytnkmcbhpmbjkpaa
