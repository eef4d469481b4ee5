/- The plain statement of AddrBack over the printed functions stands in the text that is imported. -/
import Derived.Test.YtbppngopiackcaaAddrBack
