/- The plain statement of FrameSides over the printed functions stands in the text that is imported. -/
import Derived.Test.YtdpgdnbknmncfaaDoorLawsFrameSides
