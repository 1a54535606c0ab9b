/- Update, of winmax (printed by winupd.py). -/
import Derived.Test.YtjamnhdgekccnaaWinmaxUpd1
import Derived.Test.YtjamnhdgekccnaaWinmaxUpd2
import Derived.Test.YtjamnhdgekccnaaWinmaxUpd3
import Derived.WalkKit
import Derived.WalkSpells
import Derived.WalkLawsBesides
import Derived.WalkMore
import Derived.Deep.LoopGhost
set_option linter.unusedVariables false
set_option linter.unusedSimpArgs false
namespace Go.Proofs.Ytjamnhdgekccnaa
open Go.RowKit
section
variable (b : Nat) (win t0 v0 t1 v1 t2 v2 last t v : Int)
theorem maxUpd_ct (hw0 : 0 ≤ win) (hw1 : win ≤ 18446744073709551615) (hl0 : 0 ≤ last) (hl1 : last ≤ 18446744073709551615) (ht0 : 0 ≤ t) (ht1 : t ≤ 18446744073709551615) (h0 : 0 ≤ t0) (h1 : 0 ≤ t1) (h2 : 0 ≤ t2) : Ct Try.prog 15 #[.pointer (some ⟨b, 0, none⟩), .int .u64 t, .int .u64 v] [maxR b win t0 v0 t1 v1 t2 v2 last] (Gives (.int .u64 (wsU win ⟨t0, v0, t1, v1, t2, v2⟩ (max last t) v).v0) [maxWsR b win (wsU win ⟨t0, v0, t1, v1, t2, v2⟩ (max last t) v) (max last t)]) := by
  by_cases hA : v0 ≤ v
  · exact maxUpdA_ct _ _ _ _ _ _ _ _ _ _ _ hw0 hw1 hl0 hl1 ht0 ht1 h0 h1 h2 hA
  · by_cases hB : win < max last t - min (max last t) t2
    · exact maxUpdA2_ct _ _ _ _ _ _ _ _ _ _ _ hw0 hw1 hl0 hl1 ht0 ht1 h0 h1 h2 hA hB
    · by_cases hb : v1 ≤ v
      · exact maxUpdB1_ct _ _ _ _ _ _ _ _ _ _ _ hw0 hw1 hl0 hl1 ht0 ht1 h0 h1 h2 hA (by omega) hb
      · by_cases hb2 : v2 ≤ v
        · exact maxUpdB2_ct _ _ _ _ _ _ _ _ _ _ _ hw0 hw1 hl0 hl1 ht0 ht1 h0 h1 h2 hA (by omega) hb hb2
        · exact maxUpdB3_ct _ _ _ _ _ _ _ _ _ _ _ hw0 hw1 hl0 hl1 ht0 ht1 h0 h1 h2 hA (by omega) hb hb2
end
end Go.Proofs.Ytjamnhdgekccnaa
