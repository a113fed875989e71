/- Cut by a program of this session from the words that the kit's print.sh wrote for this seat: what the claim does not mention is left out. -/
import Derived.Test.YtjohdkbciafpfaaWWords
import Derived.Laws.StructEq
