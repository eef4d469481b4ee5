/- The plain statement of AddrTurned over the printed functions stands in the text that is imported. -/
import Derived.Test.YtbppngopiackcaaLawsAddrTurnedT
