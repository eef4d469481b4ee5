/- The plain statement of AddrKinds over the printed functions stands in the text that is imported. -/
import Derived.Test.YtbppngopiackcaaAddrLaws
