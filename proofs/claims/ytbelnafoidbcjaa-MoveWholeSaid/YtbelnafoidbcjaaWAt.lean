-- Of the words that the print laid for this seat: those that this claim uses (wip/tools/words.py); a text of this session, not of print.sh.
import Derived.Test.YtbelnafoidbcjaaWFootNe
