/- Update, of the reference's Win (printed by winref.py). -/
import Derived.Test.YtjamnhdgekccnaaWinRefUpdL1
import Derived.Test.YtjamnhdgekccnaaWinRefUpdL2
import Derived.Test.YtjamnhdgekccnaaWinRefUpdL3
import Derived.WalkKit
import Derived.WalkSpells
import Derived.WalkLawsBesides
import Derived.WalkMore
import Derived.Deep.LoopGhost
set_option linter.unusedVariables false
set_option linter.unusedSimpArgs false
namespace Go.Proofs.Ytjamnhdgekccnaa
open Go.RowKit
section
variable (b : Nat) (win t0 v0 t1 v1 t2 v2 last t v : Int)
theorem winLUpd_ct (hw0 : 0 ≤ win) (hw1 : win ≤ 18446744073709551615) (hl0 : 0 ≤ last) (hl1 : last ≤ 18446744073709551615) (ht0 : 0 ≤ t) (ht1 : t ≤ 18446744073709551615) (h0 : 0 ≤ t0) (h1 : 0 ≤ t1) (h2 : 0 ≤ t2) (k0 : t0 ≤ last) (k1 : t1 ≤ last) (k2 : t2 ≤ last) : Ct Try.prog 16 #[.pointer (some ⟨b, 0, none⟩), .int .u64 t, .int .u64 v] [winR b win t0 v0 t1 v1 t2 v2 last true] (Gives (.int .u64 (wsUn win ⟨t0, v0, t1, v1, t2, v2⟩ (max t last) v).v0) [winWs b win (wsUn win ⟨t0, v0, t1, v1, t2, v2⟩ (max t last) v) (max t last) true]) := by
  by_cases hA : v ≤ v0
  · exact winLUpdA_ct _ _ _ _ _ _ _ _ _ _ _ hw0 hw1 hl0 hl1 ht0 ht1 h0 h1 h2 k0 k1 k2 hA
  · by_cases hB : win < max t last - min (max t last) t2
    · exact winLUpdA2_ct _ _ _ _ _ _ _ _ _ _ _ hw0 hw1 hl0 hl1 ht0 ht1 h0 h1 h2 k0 k1 k2 hA hB
    · by_cases hz : t2 < max t last
      · by_cases hb : v ≤ v1
        · exact winLUpdB1Y_ct _ _ _ _ _ _ _ _ _ _ _ hw0 hw1 hl0 hl1 ht0 ht1 h0 h1 h2 k0 k1 k2 hA (by omega) hz hb
        · by_cases hb2 : v ≤ v2
          · exact winLUpdB2Y_ct _ _ _ _ _ _ _ _ _ _ _ hw0 hw1 hl0 hl1 ht0 ht1 h0 h1 h2 k0 k1 k2 hA (by omega) hz hb hb2
          · exact winLUpdB3Y_ct _ _ _ _ _ _ _ _ _ _ _ hw0 hw1 hl0 hl1 ht0 ht1 h0 h1 h2 k0 k1 k2 hA (by omega) hz hb hb2
      · by_cases hb : v ≤ v1
        · exact winLUpdB1N_ct _ _ _ _ _ _ _ _ _ _ _ hw0 hw1 hl0 hl1 ht0 ht1 h0 h1 h2 k0 k1 k2 hA (by omega) hz hb
        · by_cases hb2 : v ≤ v2
          · exact winLUpdB2N_ct _ _ _ _ _ _ _ _ _ _ _ hw0 hw1 hl0 hl1 ht0 ht1 h0 h1 h2 k0 k1 k2 hA (by omega) hz hb hb2
          · exact winLUpdB3N_ct _ _ _ _ _ _ _ _ _ _ _ hw0 hw1 hl0 hl1 ht0 ht1 h0 h1 h2 k0 k1 k2 hA (by omega) hz hb hb2
end
end Go.Proofs.Ytjamnhdgekccnaa
