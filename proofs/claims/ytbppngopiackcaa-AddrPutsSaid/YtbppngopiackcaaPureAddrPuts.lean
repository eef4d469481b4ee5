/- The plain statement of AddrPuts over the printed functions stands in the text that is imported. -/
import Derived.Test.YtbppngopiackcaaAddrLaws
