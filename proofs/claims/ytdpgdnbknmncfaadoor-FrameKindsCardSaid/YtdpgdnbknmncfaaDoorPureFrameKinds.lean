/- The plain statement of FrameKinds over the printed functions stands in the text that is imported. -/
import Derived.Test.YtdpgdnbknmncfaaDoorLawsFrameKinds
