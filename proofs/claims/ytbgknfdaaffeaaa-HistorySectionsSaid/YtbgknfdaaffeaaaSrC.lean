/- Sorting sections by their tokens: symMergeCmpFunc. Printed by gen_src.py. -/
import Derived.Test.YtbgknfdaaffeaaaSrC1
import Derived.Test.YtbgknfdaaffeaaaSrC2
import Derived.Test.YtbgknfdaaffeaaaSrC3
namespace Go.Proofs.Ytbgknfdaaffeaaa
open Go.RowKit Go.Shelf

theorem symMerge_all (M0 : Imm) (L : List Res) (b n c : Nat) : ∀ N, SymAll M0 L b n c N
  | 0 => fun _ a m e P F G Q w h1 h2 h3 h4 h5 h6 => by omega
  | N + 1 => fun hmx a m e P F G Q w heN ha hm he hF hG sF sG h => by
    by_cases h1 : F.length = 1
    · exact sym1_st M0 L b n c N hmx a m e P F G Q w heN ha hm he hF hG sF sG h1 h
    · by_cases h2 : G.length = 1
      · exact sym2_st M0 L b n c N hmx a m e P F G Q w heN ha hm he hF hG sF sG h1 h2 h
      · exact sym3_st M0 L b n c N hmx (symMerge_all M0 L b n c N) a m e P F G Q w heN ha hm he hF hG sF sG h1 h2 h
end Go.Proofs.Ytbgknfdaaffeaaa
